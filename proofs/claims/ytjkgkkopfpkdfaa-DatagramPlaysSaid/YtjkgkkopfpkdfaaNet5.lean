import Derived.Test.YtjkgkkopfpkdfaaNet4
set_option linter.unusedVariables false
set_option linter.unusedSimpArgs false
namespace Go.Proofs.Ytjkgkkopfpkdfaa
open Go.RowKit Go.Conc Go.Proofs.YtjkgkkopfpkdfaaW.PrintWords Go.Proofs.YtjkgkkopfpkdfaaW.PrintLast

set_option maxHeartbeats 400000 in
theorem take1_yes (i f t : Int) (A : Option Addr) (n cp ab ob : Nat) (x y z : Value) (w : World) (ha : w.heap[ab]? = some (.cells #[.int .i64 i] 3 (0, 0)))
    (ho : w.heap[ob]? = some (.cells #[x, y, z] 33 (0, 0))) :
    Calls Try.prog 22 #[.int .i64 i, .agg #[.int .i64 f, .int .i64 t, .slice A n cp], .pointer (some ⟨ab, 0, none⟩), .pointer (some ⟨ob, 0, none⟩)] w fun e w' =>
      e = .returned (.bool false) ∧ w'.heap[ob]? = some (.cells #[.int .i64 f, .int .i64 t, .slice A n cp] 33 (0, 0)) ∧ w.grownBy w' (some ob) := by
  obtain ⟨a0, _⟩ := cells1 ha
  obtain ⟨o0, o1, o2, f0, f1, f2⟩ := cells3 ho
  have la := blk_lt ha
  have lo := blk_lt ho
  have hne := blk_ne ha ho (by decide)
  have e1 : (i == i) = true := beq_self_eq_true i
  have e2 : (i != i) = false := by simp
  have hw : ∀ W : World, W = (((w.setCell ⟨ob, 0, none⟩ (.int .i64 f)).setCell ⟨ob, 1, none⟩ (.int .i64 t)).setCell ⟨ob, 2, none⟩ (.slice A n cp)).alloc (.cells #[.int .i64 f, .int .i64 t, .slice A n cp] 33) →
      W.heap[ob]? = some (.cells #[.int .i64 f, .int .i64 t, .slice A n cp] 33 (0, 0)) ∧ w.grownBy W (some ob) := by
    rintro W rfl
    have h1 := blk_set (blk_set (blk_set ho 0 (.int .i64 f)) 1 (.int .i64 t)) 2 (.slice A n cp)
    have h2 := gb_setCell (p := ⟨ob, 2, none⟩) (gb_setCell (p := ⟨ob, 1, none⟩) (gb_setCell (p := ⟨ob, 0, none⟩) (gb_refl w (some ob)) (.inl rfl) (.int .i64 f)) (.inl rfl) (.int .i64 t)) (.inl rfl) (.slice A n cp)
    refine ⟨?_, gb_alloc h2 _⟩
    have h3 := blk_alloc h1 (.cells #[.int .i64 f, .int .i64 t, .slice A n cp] 33)
    simpa using h3
  have HW := Lib.hid hw
  clear ha ho hw
  go_enter Try.func22, Try.ntmps22
  go_wp2
  go_ret
  exact ⟨rfl, (HW.out _ rfl).1, (HW.out _ rfl).2⟩

set_option maxHeartbeats 400000 in
theorem take1_no (i n0 f t : Int) (A : Option Addr) (n cp ab : Nat) (v : Value) (w : World) (hi : i ≠ n0) (ha : w.heap[ab]? = some (.cells #[.int .i64 n0] 3 (0, 0))) :
    Calls Try.prog 22 #[.int .i64 i, .agg #[.int .i64 f, .int .i64 t, .slice A n cp], .pointer (some ⟨ab, 0, none⟩), v] w fun e w' =>
      e = .returned (.bool true) ∧ Below w.heap.size w w' := by
  obtain ⟨a0, _⟩ := cells1 ha
  have la := blk_lt ha
  have e1 : (i == n0) = false := by simpa using hi
  have e2 : (i != n0) = true := by simpa using hi
  clear ha
  go_enter Try.func22, Try.ntmps22
  go_wp2
  go_ret
  exact ⟨rfl, (Below.refl _ _).alloc (Nat.le_refl _) _⟩

theorem enter22 (args : Array Value) (w : World) : (callFunc 22 args).run Try.prog w = .ok (.enter 22 args) w :=
  enters_ Try.func22 (by kernel_rfl) rfl args w

theorem keptTo_erase (vals : List Value) (n : Nat) : ∀ k, k ≤ vals.length → keptTo (fun i => decide (i ≠ n)) vals k = (vals.take k).eraseIdx n
  | 0, _ => by simp [keptTo]
  | k + 1, h => by
    have ih := keptTo_erase vals n k (by omega)
    rw [keptTo, ih, List.take_succ_eq_append_getElem (by omega)]
    have hg : vals.getD k undef = vals[k] := by simp [List.getD_eq_getElem?_getD, List.getElem?_eq_getElem (show k < vals.length by omega)]
    have hlen : (vals.take k).length = k := by simp; omega
    rcases Nat.lt_trichotomy n k with hlt | rfl | hgt
    · rw [List.eraseIdx_append_of_lt_length (by omega)]
      rw [if_pos (by simp; omega), hg]
    · rw [List.eraseIdx_append_of_length_le (by omega), List.eraseIdx_of_length_le (by omega)]
      simp [hlen]
    · rw [List.eraseIdx_append_of_length_le (by omega), List.eraseIdx_of_length_le (by omega)]
      rw [if_pos (by simp; omega), hg, List.eraseIdx_of_length_le (by simp; omega)]

/-- The three cells of a packet's value. -/
def pkCells (f t : Int) (A : Option Addr) (n cp : Nat) : Array Value := #[.int .i64 f, .int .i64 t, .slice A n cp]

set_option maxHeartbeats 1000000 in
theorem take_in (nb c : Nat) (vals : List Value) (n : Nat) (f t : Int) (A : Option Addr) (ln cp : Nat) (w : World) (hn : NetAt w nb c vals) (hl : vals.length ≤ 256) (hag : ∀ v ∈ vals, IsAgg v)
    (hv : vals[n]? = some (.agg #[.int .i64 f, .int .i64 t, .slice A ln cp])) :
    Calls Try.prog 10 #[.pointer (some ⟨nb, 0, none⟩), .int .i64 n] w fun e w' =>
      e = .returned (.tuple #[.agg #[.int .i64 f, .int .i64 t, .slice A ln cp], .bool true]) ∧ NetAt w' nb c (vals.eraseIdx n) ∧ w.grownBy w' (some c) := by
  obtain ⟨hlt, hlc⟩ := hn.lt
  have hnl : n < vals.length := (List.getElem?_eq_some_iff.1 hv).1
  obtain ⟨W, hW⟩ : ∃ W, W = ((w.alloc (.cells #[.int .i64 n] 3)).alloc (.cells #[.int .i64 0, .int .i64 0, .slice none 0 0] 33)).alloc (.cells #[.int .i64 0, .int .i64 0, .slice none 0 0] 33) := ⟨_, rfl⟩
  have hbW : Below w.heap.size w W := by
    rw [hW]
    exact (((Below.refl _ _).alloc (Nat.le_refl _) _).alloc (by simp) _).alloc (by simp; omega) _
  have hsW : W.heap.size = w.heap.size + 3 := by rw [hW]; simp
  have hab : W.heap[w.heap.size]? = some (.cells #[.int .i64 n] 3 (0, 0)) := by
    rw [hW]
    exact blk_alloc (blk_alloc (blk_new w _) _) _
  have hrb : W.heap[w.heap.size + 1]? = some (.cells #[.int .i64 0, .int .i64 0, .slice none 0 0] 33 (0, 0)) := by
    rw [hW]
    have := blk_new (w.alloc (.cells #[.int .i64 n] 3)) (.cells #[.int .i64 0, .int .i64 0, .slice none 0 0] 33)
    rw [World.size_alloc] at this
    exact blk_alloc this _
  have hob : W.heap[w.heap.size + 1 + 1]? = some (.cells #[.int .i64 0, .int .i64 0, .slice none 0 0] 33 (0, 0)) := by
    rw [hW]
    have := blk_new ((w.alloc (.cells #[.int .i64 n] 3)).alloc (.cells #[.int .i64 0, .int .i64 0, .slice none 0 0] 33)) (.cells #[.int .i64 0, .int .i64 0, .slice none 0 0] 33)
    rw [World.size_alloc, World.size_alloc] at this
    exact this
  have hround := round_any nb c vals 22 #[.pointer (some ⟨w.heap.size, 0, none⟩), .pointer (some ⟨w.heap.size + 1 + 1, 0, none⟩)] W
    (hn.below hbW) hl hag enter22
    (fun k wk => w.grownBy wk (some c) ∧ w.heap.size + 3 ≤ wk.heap.size ∧ wk.heap[w.heap.size]? = some (.cells #[.int .i64 n] 3 (0, 0)) ∧ wk.heap[w.heap.size + 1]? = some (.cells #[.int .i64 0, .int .i64 0, .slice none 0 0] 33 (0, 0)) ∧
      wk.heap[w.heap.size + 1 + 1]? = some (.cells (if n < k then #[.int .i64 f, .int .i64 t, .slice A ln cp] else #[.int .i64 0, .int .i64 0, .slice none 0 0]) 33 (0, 0)))
    (fun i => decide (i ≠ n)) ⟨gb_below hbW _, by omega, hab, hrb, by simpa using hob⟩ ?hJ ?hstep
  case hJ =>
    rintro k w1 w2 ⟨g1, gs, b1, b2, b3⟩ g2
    have hne : ∀ j, some (w.heap.size + j) ≠ some c := fun j e => by have := Option.some.inj e; omega
    exact ⟨gb_trans g1 g2, Nat.le_trans gs g2.size, gb_blk g2 b1 (hne 0), gb_blk g2 b2 (hne 1), gb_blk g2 b3 (hne 2)⟩
  case hstep =>
    rintro k wA f' t' A' n' cp' hk ⟨g1, gs, b1, b2, b3⟩ hA1 hA2 hv'
    have hbl : Below wA.heap.size wA (wA.alloc (.cells #[.int .i64 f', .int .i64 t', .slice A' n' cp'] 33)) := (Below.refl _ _).alloc (Nat.le_refl _) _
    by_cases hkn : k = n
    · subst hkn
      have hget : vals.getD k undef = .agg #[.int .i64 f, .int .i64 t, .slice A ln cp] := by rw [List.getD_eq_getElem?_getD, hv]; rfl
      rw [hget] at hv'
      simp only [Value.agg.injEq, Array.mk.injEq, List.cons.injEq, Value.int.injEq, true_and, Value.slice.injEq, and_true] at hv'
      obtain ⟨rfl, rfl, rfl, rfl, rfl⟩ := hv'
      rw [if_neg (by omega)] at b3
      refine (take1_yes k f t A ln cp w.heap.size (w.heap.size + 1 + 1) _ _ _ _ (blk_alloc b1 _) (blk_alloc b3 _)).mono ?_
      rintro e w' ⟨rfl, h1, h2⟩
      have hne : ∀ j, j ≠ 2 → some (w.heap.size + j) ≠ some (w.heap.size + 1 + 1) := fun j hj e => by have := Option.some.inj e; omega
      refine ⟨by simp, ⟨gb_trans_new (gb_alloc g1 _) h2 (by omega), by have := h2.size; simp at this; omega, gb_blk h2 (blk_alloc b1 _) (hne 0 (by omega)), gb_blk h2 (blk_alloc b2 _) (hne 1 (by omega)), by rw [if_pos (by omega)]; exact h1⟩, ?_, ?_, ?_⟩
      · exact (h2.block nb (by simp; omega) (fun e => by cases e; omega)).trans (Below.heap_alloc _ _ _ hA1)
      · exact (h2.block c (by simp; omega) (fun e => by cases e; omega)).trans (Below.heap_alloc _ _ _ hA2)
      · exact (h2.block _ (by simp) (fun e => by have := Option.some.inj e; omega)).trans (blk_new wA _)
    · refine (take1_no k n f' t' A' n' cp' w.heap.size _ _ (by omega) (blk_alloc b1 _)).mono ?_
      rintro e w' ⟨rfl, h1⟩
      have hif : (if n < k + 1 then #[Value.int .i64 f, .int .i64 t, .slice A ln cp] else #[.int .i64 0, .int .i64 0, .slice none 0 0]) = (if n < k then #[Value.int .i64 f, .int .i64 t, .slice A ln cp] else #[.int .i64 0, .int .i64 0, .slice none 0 0]) := by
        by_cases h : n < k
        · rw [if_pos h, if_pos (by omega)]
        · rw [if_neg h, if_neg (by omega)]
      refine ⟨by simp [hkn], ⟨gb_then (gb_alloc g1 _) h1, by have := h1.size; simp at this; omega, blk_below (blk_alloc b1 _) h1, blk_below (blk_alloc b2 _) h1, by rw [hif]; exact blk_below (blk_alloc b3 _) h1⟩, ?_, ?_, ?_⟩
      · exact (h1.block nb (by simp; omega)).trans (Below.heap_alloc _ _ _ hA1)
      · exact (h1.block c (by simp; omega)).trans (Below.heap_alloc _ _ _ hA2)
      · exact (h1.block _ (by simp)).trans (blk_new wA _)
  have HRD := Lib.hid hround
  have HN := Lib.hid hn
  have HB := Lib.hid hbW
  have dth : decide (0 ≤ (n : Int) ∧ (n : Int) < vals.length) = true := by simpa using hnl
  have HD := Lib.hid dth
  clear hround hn hab hrb hob hbW hsW hv hag dth
  go_enter Try.func10, Try.ntmps10
  go_wp2_with fail
  refine (there_any n nb c vals _ (HN.out.below ((((Below.refl _ _).alloc (Nat.le_refl _) _).alloc (by simp) _).alloc (by simp; omega) _))).mono ?_
  rintro e w1 ⟨rfl, rfl⟩
  rw [HD.out]
  go_wp2_with fail
  rw [← hW]
  refine HRD.out.mono ?_
  rintro e w1 ⟨rfl, ⟨g1, gs, b1, b2, b3⟩, n1⟩
  rw [if_pos hnl] at b3
  rw [keptTo_erase _ _ _ (Nat.le_refl _), List.take_length] at n1
  obtain ⟨p0, p1, p2, _⟩ := cells3 b3
  obtain ⟨q0, q1, q2, f0, f1, f2⟩ := cells3 b2
  have hfin : ∀ w' : World, w' = (((w1.setCell ⟨w.heap.size + 1, 0, none⟩ (.int .i64 f)).setCell ⟨w.heap.size + 1, 1, none⟩ (.int .i64 t)).setCell ⟨w.heap.size + 1, 2, none⟩ (.slice A ln cp)) →
      NetAt w' nb c (vals.eraseIdx n) ∧ w.grownBy w' (some c) := by
    rintro w' rfl
    have hg := gb_setCell (p := ⟨w.heap.size + 1, 2, none⟩) (gb_setCell (p := ⟨w.heap.size + 1, 1, none⟩) (gb_setCell (p := ⟨w.heap.size + 1, 0, none⟩) g1 (.inr (by simp)) (.int .i64 f)) (.inr (by simp)) (.int .i64 t)) (.inr (by simp)) (.slice A ln cp)
    have hg1 := gb_setCell (p := ⟨w.heap.size + 1, 2, none⟩) (gb_setCell (p := ⟨w.heap.size + 1, 1, none⟩) (gb_setCell (p := ⟨w.heap.size + 1, 0, none⟩) (gb_refl w1 (some (w.heap.size + 1))) (.inl rfl) (.int .i64 f)) (.inl rfl) (.int .i64 t)) (.inl rfl) (.slice A ln cp)
    obtain ⟨n2, s2, r2, n3⟩ := n1
    exact ⟨⟨gb_blk hg1 n2 (fun e => by have := Option.some.inj e; omega), s2, r2, gb_blk hg1 n3 (fun e => by have := Option.some.inj e; omega)⟩, hg⟩
  have HF := Lib.hid hfin
  clear hfin b1 b2 b3 n1 g1 hW
  go_wp2_with fail
  exact bodyPost_ret (v := .tuple #[.agg #[.int .i64 f, .int .i64 t, .slice A ln cp], .bool true]) (by simp [results, Try.results10, go_sem, q0, q1, q2, f0, f1, f2]) rfl ⟨rfl, (HF.out _ rfl).1, (HF.out _ rfl).2⟩

set_option maxHeartbeats 1000000 in
theorem take_out (nb c : Nat) (vals : List Value) (n : Int) (w : World) (hn : NetAt w nb c vals) (hout : ¬ (0 ≤ n ∧ n < vals.length)) :
    Calls Try.prog 10 #[.pointer (some ⟨nb, 0, none⟩), .int .i64 n] w fun e w' =>
      e = .returned (.tuple #[.agg #[.int .i64 0, .int .i64 0, .slice none 0 0], .bool false]) ∧ Below w.heap.size w w' := by
  obtain ⟨hlt, hlc⟩ := hn.lt
  have HN := Lib.hid hn
  have HD := Lib.hid (show decide (0 ≤ n ∧ n < (vals.length : Int)) = false from decide_eq_false hout)
  clear hn hout
  go_enter Try.func10, Try.ntmps10
  go_wp2_with fail
  refine (there_any n nb c vals _ (HN.out.below ((((Below.refl _ _).alloc (Nat.le_refl _) _).alloc (by simp) _).alloc (by simp; omega) _))).mono ?_
  rintro e w1 ⟨rfl, rfl⟩
  rw [HD.out]
  go_wp2_with fail
  have hfin : ∀ w' : World, w' = ((w.alloc (.cells #[.int .i64 n] 3)).alloc (.cells #[.int .i64 0, .int .i64 0, .slice none 0 0] 33)).alloc (.cells #[.int .i64 0, .int .i64 0, .slice none 0 0] 33) → Below w.heap.size w w' := by
    rintro w' rfl
    exact (((Below.refl _ _).alloc (Nat.le_refl _) _).alloc (by simp) _).alloc (by simp; omega) _
  exact bodyPost_ret (v := .tuple #[.agg #[.int .i64 0, .int .i64 0, .slice none 0 0], .bool false]) (by simp [results, Try.results10, go_sem]) rfl ⟨rfl, hfin _ rfl⟩
end Go.Proofs.Ytjkgkkopfpkdfaa
