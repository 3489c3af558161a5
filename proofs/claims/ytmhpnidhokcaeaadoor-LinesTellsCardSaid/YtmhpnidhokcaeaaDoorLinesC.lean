/- What the printed functions of chapter 05 answer: Same, great; the contracts in one form. -/
import Derived.Test.YtmhpnidhokcaeaaDoorLinesW5
import Derived.Test.YtmhpnidhokcaeaaDoorLinesW3
import Derived.Test.YtmhpnidhokcaeaaDoorPLinesTellsx2
set_option linter.unusedVariables false
set_option linter.unusedSimpArgs false
namespace Go.Proofs.YtmhpnidhokcaeaaDoor
open Go Go.RowKit Go.Proofs.YtmhpnidhokcaeaaDoorW.PrintWords Go.Proofs.YtmhpnidhokcaeaaDoorW.PrintLast Go.Proofs.YtmhpnidhokcaeaaDoor.PLinesTells

theorem bytes_eq (x y : ByteArray) : x.toList = y.toList ↔ x = y := by
  constructor
  · intro e
    rw [ByteArray.toList_eq, ByteArray.toList_eq] at e
    obtain ⟨⟨x⟩⟩ := x
    obtain ⟨⟨y⟩⟩ := y
    simp at e
    subst e
    rfl
  · rintro rfl
    rfl
theorem wrap_add (i j : Nat) (h : i + j < 4611686018427387904) : wrap64 ((i : Int) + (j : Int)) = ((i + j : Nat) : Int) := by unfold wrap64; omega
theorem wrap_succ (i : Nat) (h : i < 4611686018427387904) : wrap64 ((i : Int) + 1) = ((i + 1 : Nat) : Int) := by unfold wrap64; omega
theorem eq_loop (x y : List ByteArray) (hl : x.length = y.length) (hx : x.length < 4611686018427387904) (L : Nat → Int → Option Bool)
    (hL : ∀ k i, L (k + 1) i = if i < (x.length : Int) then (if 0 ≤ i then (if i < (y.length : Int) then (if (rdOf ByteArray.empty x i).toList = (rdOf ByteArray.empty y i).toList then L k (wrap64 (i + 1)) else some false) else none) else none) else some true) :
    ∀ (d i k : Nat), i + d = x.length → d < k → L k (i : Int) = some (decide (x.drop i = y.drop i)) := by
  intro d
  induction d with
  | zero =>
    intro i k hd hk
    obtain ⟨k, rfl⟩ : ∃ m, k = m + 1 := ⟨k - 1, by omega⟩
    rw [hL, if_neg (by omega), List.drop_eq_nil_of_le (by omega), List.drop_eq_nil_of_le (by omega), decide_eq_true rfl]
  | succ d ih =>
    intro i k hd hk
    obtain ⟨k, rfl⟩ : ∃ m, k = m + 1 := ⟨k - 1, by omega⟩
    have h1 : i < x.length := by omega
    have h2 : i < y.length := by omega
    rw [hL, if_pos (by omega), if_pos (by omega), if_pos (by omega), rdOf_nat _ _ _ h1, rdOf_nat _ _ _ h2, wrap_succ _ (by omega), ih (i + 1) k (by omega) (by omega),
      List.drop_eq_getElem_cons h1, List.drop_eq_getElem_cons h2]
    by_cases e : x[i] = y[i]
    · rw [if_pos ((bytes_eq _ _).2 e)]
      congr 1
      rw [decide_eq_decide, List.cons.injEq]
      exact ⟨fun h => ⟨e, h⟩, fun h => h.2⟩
    · rw [if_neg (fun h => e ((bytes_eq _ _).1 h))]
      congr 1
      symm
      rw [decide_eq_false_iff_not, List.cons.injEq]
      exact fun h => e h.1

theorem lsame_f (x y : List ByteArray) (hx : x.length < 4611686018427387904) (k : Nat) (hk : x.length < k) : counterpaneref05_Same.f k x y = some (decide (x = y)) := by
  unfold counterpaneref05_Same.f
  by_cases hl : x.length = y.length
  · rw [if_pos (by omega)]
    have := eq_loop x y hl hx (fun k i => counterpaneref05_Same.l0 k x y i) (fun k i => by rw [counterpaneref05_Same.l0]) x.length 0 k (by omega) hk
    simpa using this
  · rw [if_neg (by omega)]
    congr 1
    symm
    rw [decide_eq_false_iff_not]
    exact fun h => hl (by rw [h])
theorem mn_nat (a : Nat) : ∃ m : Nat, mn (a : Int) 20000 = (m : Int) ∧ m = min a 20000 := ⟨min a 20000, by unfold mn; omega, rfl⟩
theorem lsame_n (n m c d : Nat) (x y : List ByteArray) (A B : Option Addr) (w : World) (h1 : x.length = n) (h2 : y.length = m) (hA : Kd.string.C w A n x) (hc : n ≤ c) (hB : Kd.string.C w B m y) (hd : m ≤ d) (hn : n < 4611686018427387904) :
    Calls Tryd.prog 14 #[.slice A n c, .slice B m d] w fun e w' => e = .returned (.bool (decide (x = y))) ∧ Below w.heap.size w w' := by
  subst h1
  subst h2
  refine (counterpaneref05_Same.calls (x.length + 1) A c x B d y _ w hA hc hB hd (lsame_f x y hn _ (by omega))).mono ?_
  rintro e w' ⟨rfl, hD⟩
  exact ⟨rfl, hD.below⟩
theorem great_l (x : List ByteArray) (hx : x.length < 100000000000000) : ∀ (d i n k : Nat), i + d = x.length → d < k → n < 300000000000000 → (n < 20000 → (joinOf (x.take i)).length + d ≤ n) →
    ∃ r, counterpanelaw05_great.l0 k x (n : Int) (i : Int) = some r ∧ (r = false → (joinOf x).length < 20000 ∧ x.length < 20000) := by
  intro d
  induction d with
  | zero =>
    intro i n k hd hk hn hj
    obtain ⟨k, rfl⟩ : ∃ m, k = m + 1 := ⟨k - 1, by omega⟩
    refine ⟨decide ((n : Int) ≥ 20000), by rw [counterpanelaw05_great.l0, if_neg (by omega)], fun h => ?_⟩
    have h1 : n < 20000 := by
      have := of_decide_eq_false h
      omega
    have h2 := hj h1
    rw [List.take_of_length_le (by omega)] at h2
    have h3 : x.length ≤ (joinOf x).length := by
      unfold joinOf textOf
      rw [List.map_map]
      clear h1 h2 hj h hn hk hd hx
      induction x with
      | nil => simp
      | cons a x ih =>
        rw [List.map_cons, List.flatten_cons, List.length_append, List.length_cons]
        simp only [Function.comp, List.length_append, List.length_singleton] at ih ⊢
        omega
    omega
  | succ d ih =>
    intro i n k hd hk hn hj
    obtain ⟨k, rfl⟩ : ∃ m, k = m + 1 := ⟨k - 1, by omega⟩
    have hxi : i < x.length := by omega
    by_cases h3 : n < 20000
    · obtain ⟨m, hm, hm2⟩ := mn_nat (x[i]'hxi).size
      have hlen := joinOf_snoc (x.take i) (x[i]'hxi)
      rw [List.take_append_getElem] at hlen
      have hl2 := congrArg List.length hlen
      rw [List.length_append, List.length_append, Lib.byteCells_length, Lib.byteCells_length, Lib.strCells_length] at hl2
      obtain ⟨r, h1, h2⟩ := ih (i + 1) (n + m) k (by omega) (by omega) (by omega) (fun h => by
        have h4 := hj h3
        rw [hl2]
        have : m = (x[i]'hxi).size := by omega
        rw [List.length_singleton]
        omega)
      exact ⟨r, by rw [counterpanelaw05_great.l0, if_pos (by omega), if_pos (by omega), if_pos (by omega), rdOf_nat _ _ _ hxi, hm, wrap_add _ _ (by omega), wrap_succ _ (by omega), h1], h2⟩
    · refine ⟨decide ((n : Int) ≥ 20000), by rw [counterpanelaw05_great.l0, if_pos (by omega), if_neg (by omega)], fun h => ?_⟩
      have := of_decide_eq_false h
      omega
theorem great_n (n c : Nat) (x : List ByteArray) (A : Option Addr) (w : World) (h1 : x.length = n) (hA : Kd.string.C w A n x) (hc : n ≤ c) (hx : n < 100000000000000) :
    ∃ r, (r = false → (joinOf x).length < 20000 ∧ n < 20000) ∧ Calls Tryd.prog 15 #[.slice A n c] w fun e w' => e = .returned (.bool r) ∧ Below w.heap.size w w' := by
  subst h1
  obtain ⟨r, h, h2⟩ := great_l x hx x.length 0 x.length (x.length + 1) (by omega) (by omega) (by omega) (fun _ => by simp [joinOf, textOf])
  exact ⟨r, h2, counterpanelaw05_great.calls (x.length + 1) A c x r w hA hc h⟩
/-- A line's pieces. -/
def tokOf (s : ByteArray) : List ByteArray := (piecesB s).map Prod.fst
theorem tokOf_len (s : ByteArray) : (tokOf s).length ≤ s.size := by
  unfold tokOf
  rw [List.length_map]
  exact piecesB_len s
def replB (s f t : ByteArray) : ByteArray := ba (replaced (bl s) (bl f) (bl t))
theorem tokens_n (s : ByteArray) (w : World) (hs : s.size ≤ 100000000) :
    Calls Tryd.prog 10 #[.string s] w fun e w' => ∃ A n c, e = .returned (.slice A n c) ∧ (tokOf s).length = n ∧ n ≤ c ∧ Kd.string.C w' A n (tokOf s) ∧ Below w.heap.size w w' := by
  refine (tokens_any s w hs).mono ?_
  rintro e w' ⟨v, rfl, hr, hB⟩
  obtain ⟨A, c, rfl, hc, hC⟩ := Kd.R_reads hr
  exact ⟨A, _, c, rfl, rfl, hc, hC, hB⟩
theorem split_n (s : ByteArray) (w : World) (hm : Cell0 w) (hs : s.size ≤ 1000000000) :
    Calls Tryd.prog 13 #[.string s] w fun e w' => ∃ A n c, e = .returned (.tuple #[.slice A n c, .bool (splitOf s).2]) ∧ (splitOf s).1.length = n ∧ n ≤ c ∧ Kd.string.C w' A n (splitOf s).1 ∧ Below w.heap.size w w' := by
  refine (split_any s w hm hs).mono ?_
  rintro e w' ⟨v, rfl, hr, hB⟩
  obtain ⟨A, c, rfl, hc, hC⟩ := Kd.R_reads hr
  exact ⟨A, _, c, rfl, rfl, hc, hC, hB⟩
theorem replace_n (s f t : ByteArray) (w : World) (hs : s.size ≤ 100000000) (ht : t.size ≤ 10000) :
    Calls Tryd.prog 12 #[.string s, .string f, .string t] w fun e w' => e = .returned (.string (replB s f t)) ∧ Below w.heap.size w w' := replace_any s f t w hs ht
theorem token_n (s : ByteArray) (w : World) (hs : s.size ≤ 140737488351232) :
    Calls Tryd.prog 11 #[.string s] w fun e w' => e = .returned (.bool (tokenB (bl s))) ∧ Below w.heap.size w w' := (token_any s w hs).mono fun e w' h => ⟨h.1, h.2 ▸ Below.refl _ _⟩
theorem right_n (A : Option Addr) (n c : Nat) (xs : List ByteArray) (hxn : xs.length = n) (w : World) (hA : Kd.string.C w A n xs) (hn : n ≤ 1000000000) :
    Calls Tryd.prog 19 #[.slice A n c] w fun e w' => e = .returned (.bool (rightB xs)) ∧ Below w.heap.size w w' := (right_any A n c xs hxn w hA hn).mono fun e w' h => ⟨h.1, h.2 ▸ Below.refl _ _⟩
end Go.Proofs.YtmhpnidhokcaeaaDoor
