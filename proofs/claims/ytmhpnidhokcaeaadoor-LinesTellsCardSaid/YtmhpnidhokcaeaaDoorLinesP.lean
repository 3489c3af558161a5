/- Plain laws of pieces and of what is replaced, over texts (chapter 05). -/
import Derived.Test.YtmhpnidhokcaeaaDoorLinesH
set_option linter.unusedVariables false
set_option linter.unusedSimpArgs false
namespace Go.Proofs.YtmhpnidhokcaeaaDoor
open Go Go.RowKit Go.Proofs.YtmhpnidhokcaeaaDoorW.PrintWords Go.Proofs.YtmhpnidhokcaeaaDoorW.PrintLast

theorem bl_inj {p q : ByteArray} : bl p = bl q ↔ p = q := by
  constructor
  · intro h
    rw [← ba_bl p, ← ba_bl q, h]
  · rintro rfl
    rfl
theorem ba_eq (l : List UInt8) (s : ByteArray) : ba l = s ↔ l = bl s := by
  rw [← bl_inj, bl_ba]
theorem tokOf_eq (s : ByteArray) : tokOf s = (pieces (bl s)).map fun p => ba p.1 := by
  unfold tokOf piecesB
  rw [List.map_map]
  rfl
theorem tok_mem (s f : ByteArray) : f ∈ tokOf s ↔ ∃ p ∈ pieces (bl s), p.1 = bl f := by
  rw [tokOf_eq, List.mem_map]
  constructor
  · rintro ⟨p, hp, e⟩
    exact ⟨p, hp, (ba_eq _ _).1 e⟩
  · rintro ⟨p, hp, e⟩
    exact ⟨p, hp, (ba_eq _ _).2 e⟩
theorem tok_repl (s f t : ByteArray) (ht : tokenB (bl t) = true) : tokOf (replB s f t) = ((pieces (bl s)).map (swap (bl f) (bl t))).map fun p => ba p.1 := by
  rw [tokOf_eq]
  unfold replB
  rw [bl_ba, pieces_replaced _ _ _ ht]
theorem tok_len (s f t : ByteArray) (ht : tokenB (bl t) = true) : (tokOf (replB s f t)).length = (tokOf s).length := by
  rw [tok_repl s f t ht, tokOf_eq, List.length_map, List.length_map, List.length_map]
theorem tok_gone (s f t : ByteArray) (hf : tokenB (bl f) = true) (ht : tokenB (bl t) = true) (hft : f ≠ t) : ∀ x ∈ tokOf (replB s f t), x ≠ f := by
  intro x hx e
  rw [tok_repl s f t ht] at hx
  obtain ⟨p, hp, e2⟩ := List.mem_map.1 hx
  refine swap_gone (bl f) (bl t) hf (fun h => hft (bl_inj.1 h)) _ (pieces_alt (bl s)).1 p hp ?_
  rw [← e, ← e2, bl_ba]
theorem repl_back (s f t : ByteArray) (ht : tokenB (bl t) = true) (h : t ∉ tokOf s) : replB (replB s f t) t f = s := by
  unfold replB
  rw [bl_ba, replaced_back (bl s) (bl f) (bl t) ht (fun p hp e => h ((tok_mem s t).2 ⟨p, hp, e⟩)), ba_bl]
theorem repl_self (s f : ByteArray) : replB s f f = s := by
  unfold replB
  rw [replaced_self, ba_bl]
theorem tok_one (f : ByteArray) (hf : tokenB (bl f) = true) : tokOf f = [f] := by
  rw [tokOf_eq, pieces_token _ hf]
  show [ba (bl f)] = [f]
  rw [ba_bl]
theorem repl_not (s f t : ByteArray) (h : f ∈ tokOf s → tokenB (bl f) = false) : replB s f t = s := by
  unfold replB
  cases hf : tokenB (bl f) with
  | false => rw [replaced_none _ _ _ hf, ba_bl]
  | true =>
    rw [replaced_not _ _ _ (fun p hp hk e => by rw [h ((tok_mem s f).2 ⟨p, hp, e⟩)] at hf; cases hf), ba_bl]
def hits (f : List UInt8) (ps : List Piece) : Nat := (ps.filter fun p => p.2 && decide (p.1 = f)).length
theorem swap_len (f t : List UInt8) : ∀ ps : List Piece, (flat (ps.map (swap f t))).length + hits f ps * f.length = (flat ps).length + hits f ps * t.length
  | [] => by simp [hits, flat]
  | p :: ps => by
    have ih := swap_len f t ps
    rw [List.map_cons, flat_cons, flat_cons, List.length_append, List.length_append]
    by_cases h : p.2 = true ∧ p.1 = f
    · have e1 : hits f (p :: ps) = hits f ps + 1 := by
        unfold hits
        rw [List.filter_cons, if_pos (by simp [h.1, h.2])]
        rfl
      rw [e1, Nat.add_mul, Nat.add_mul, Nat.one_mul, Nat.one_mul]
      unfold swap at ih ⊢
      rw [if_pos h, h.2]
      show t.length + _ + _ = _
      omega
    · have e1 : hits f (p :: ps) = hits f ps := by
        unfold hits
        rw [List.filter_cons, if_neg (by simpa using h)]
      rw [e1]
      unfold swap at ih ⊢
      rw [if_neg h]
      omega
theorem swap_same (f t : List UInt8) (hl : t.length = f.length) : ∀ ps : List Piece, (∃ p ∈ ps, p.2 = true ∧ p.1 = f) → flat (ps.map (swap f t)) = flat ps → t = f
  | [], h, _ => by
    obtain ⟨p, hp, _⟩ := h
    cases hp
  | p :: ps, h, he => by
    rw [List.map_cons, flat_cons, flat_cons] at he
    by_cases hp : p.2 = true ∧ p.1 = f
    · have e : (swap f t p).1 = t := by unfold swap; rw [if_pos hp]
      rw [e, hp.2] at he
      exact (List.append_inj he hl).1
    · have e : (swap f t p) = p := by unfold swap; rw [if_neg hp]
      rw [e] at he
      refine swap_same f t hl ps ?_ (List.append_cancel_left he)
      obtain ⟨q, hq, h2⟩ := h
      rcases List.mem_cons.1 hq with rfl | hq
      · exact absurd h2 hp
      · exact ⟨q, hq, h2⟩
theorem repl_moves (s f t : ByteArray) (h : f ∈ tokOf s) (hf : tokenB (bl f) = true) (he : replB s f t = s) : f = t := by
  obtain ⟨p, hp, e⟩ := (tok_mem s f).1 h
  have hk : p.2 = true := by
    have h1 := (alt_token _ (pieces_alt (bl s)).1 p hp).1
    rw [e, hf] at h1
    exact h1.symm
  have he2 : flat ((pieces (bl s)).map (swap (bl f) (bl t))) = flat (pieces (bl s)) := by
    have h1 := congrArg bl he
    unfold replB at h1
    rw [bl_ba] at h1
    rw [(pieces_alt (bl s)).2]
    exact h1
  have hl := swap_len (bl f) (bl t) (pieces (bl s))
  rw [he2] at hl
  have hh : 0 < hits (bl f) (pieces (bl s)) := by
    unfold hits
    exact List.length_pos_of_mem (List.mem_filter.2 ⟨hp, by simp [hk, e]⟩)
  have hl2 : (bl t).length = (bl f).length := by
    have h3 : hits (bl f) (pieces (bl s)) * (bl f).length = hits (bl f) (pieces (bl s)) * (bl t).length := by omega
    exact (Nat.eq_of_mul_eq_mul_left hh h3).symm
  exact (bl_inj.1 (swap_same (bl f) (bl t) hl2 _ ⟨p, hp, hk, e⟩ he2)).symm
theorem repl_size (s f t : ByteArray) : (replB s f t).size ≤ s.size + s.size * t.size := by
  have h1 := accB_len f t (piecesB s)
  rw [accB_all, sizes_all] at h1
  change (replaced (bl s) (bl f) (bl t)).length ≤ _ at h1
  have h2 : (piecesB s).length * t.size ≤ s.size * t.size := Nat.mul_le_mul (piecesB_len s) (Nat.le_refl _)
  have e : (replB s f t).size = (replaced (bl s) (bl f) (bl t)).length := by
    rw [← bl_size]
    unfold replB
    rw [bl_ba]
  rw [e]
  omega
theorem beq_str (x f : ByteArray) : (x.toList == f.toList) = decide (x = f) := by
  rw [Bool.eq_iff_iff, beq_iff_eq, decide_eq_true_iff]
  exact bytes_eq x f
def hasB (f : ByteArray) (xs : List ByteArray) : Bool := xs.any fun x => decide (x = f)
theorem hasB_next (f : ByteArray) (xs : List ByteArray) (i : Nat) (h : i < xs.length) : hasB f (xs.take (i + 1)) = (hasB f (xs.take i) || decide (xs[i]'h = f)) := by
  unfold hasB
  rw [← List.take_append_getElem h, List.any_append]
  simp
theorem hasB_all (f : ByteArray) (xs : List ByteArray) (i : Nat) (h : ¬ i < xs.length) : hasB f (xs.take i) = hasB f xs := by
  rw [List.take_of_length_le (by omega)]
theorem hasB_iff (f : ByteArray) (xs : List ByteArray) : hasB f xs = true ↔ f ∈ xs := by
  unfold hasB
  rw [List.any_eq_true]
  constructor
  · rintro ⟨x, hx, e⟩
    rw [← of_decide_eq_true e]
    exact hx
  · intro h
    exact ⟨f, h, by simp⟩
end Go.Proofs.YtmhpnidhokcaeaaDoor
