/- What the printed functions of chapter 06 answer. -/
import Derived.Test.YtjclpepdjnffaaaDiffA
import Derived.Test.YtjclpepdjnffaaaDiffP
import Derived.Test.YtjclpepdjnffaaaPDiffTellsx1
import Derived.Test.YtjclpepdjnffaaaPDiffTellsx5
set_option linter.unusedVariables false
set_option linter.unusedSimpArgs false
namespace Go.Proofs.Ytjclpepdjnffaaa
open Go.RowKit Go.Proofs.YtjclpepdjnffaaaW.PrintWords Go.Proofs.YtjclpepdjnffaaaW.PrintLast Go.Proofs.Ytjclpepdjnffaaa.PDiffTells

theorem bytes_eq (x y : ByteArray) : x.toList = y.toList ↔ x = y := by
  constructor
  · intro e
    rw [ByteArray.toList_eq, ByteArray.toList_eq] at e
    obtain ⟨⟨x⟩⟩ := x
    obtain ⟨⟨y⟩⟩ := y
    simp at e
    subst e
    rfl
  · rintro rfl
    rfl
theorem wrap_add (i j : Nat) (h : i + j < 4611686018427387904) : wrap64 ((i : Int) + (j : Int)) = ((i + j : Nat) : Int) := by unfold wrap64; omega
theorem wrap_succ (i : Nat) (h : i < 4611686018427387904) : wrap64 ((i : Int) + 1) = ((i + 1 : Nat) : Int) := by unfold wrap64; omega
theorem rdOf_nat {α : Type} (d : α) (xs : List α) (i : Nat) (h : i < xs.length) : rdOf d xs (i : Int) = xs[i] := by
  unfold rdOf
  rw [Int.toNat_natCast, List.getD_eq_getElem?_getD, List.getElem?_eq_getElem h]
  rfl

theorem eq_loop (x y : List ByteArray) (hl : x.length = y.length) (hx : x.length < 4611686018427387904) (L : Nat → Int → Option Bool)
    (hL : ∀ k i, L (k + 1) i = if i < (x.length : Int) then (if 0 ≤ i then (if i < (y.length : Int) then (if (rdOf ByteArray.empty x i).toList = (rdOf ByteArray.empty y i).toList then L k (wrap64 (i + 1)) else some false) else none) else none) else some true) :
    ∀ (d i k : Nat), i + d = x.length → d < k → L k (i : Int) = some (decide (x.drop i = y.drop i)) := by
  intro d
  induction d with
  | zero =>
    intro i k hd hk
    obtain ⟨k, rfl⟩ : ∃ m, k = m + 1 := ⟨k - 1, by omega⟩
    rw [hL, if_neg (by omega), List.drop_eq_nil_of_le (by omega), List.drop_eq_nil_of_le (by omega), decide_eq_true rfl]
  | succ d ih =>
    intro i k hd hk
    obtain ⟨k, rfl⟩ : ∃ m, k = m + 1 := ⟨k - 1, by omega⟩
    have h1 : i < x.length := by omega
    have h2 : i < y.length := by omega
    rw [hL, if_pos (by omega), if_pos (by omega), if_pos (by omega), rdOf_nat _ _ _ h1, rdOf_nat _ _ _ h2, wrap_succ _ (by omega), ih (i + 1) k (by omega) (by omega),
      List.drop_eq_getElem_cons h1, List.drop_eq_getElem_cons h2]
    by_cases e : x[i] = y[i]
    · rw [if_pos ((bytes_eq _ _).2 e)]
      congr 1
      rw [decide_eq_decide, List.cons.injEq]
      exact ⟨fun h => ⟨e, h⟩, fun h => h.2⟩
    · rw [if_neg (fun h => e ((bytes_eq _ _).1 h))]
      congr 1
      symm
      rw [decide_eq_false_iff_not, List.cons.injEq]
      exact fun h => e h.1

theorem same_f (x y : List ByteArray) (hx : x.length < 4611686018427387904) (k : Nat) (hk : x.length < k) : counterpaneref06_same.f k x y = some (decide (x = y)) := by
  unfold counterpaneref06_same.f
  by_cases hl : x.length = y.length
  · rw [if_pos (by omega)]
    have := eq_loop x y hl hx (fun k i => counterpaneref06_same.l0 k x y i) (fun k i => by rw [counterpaneref06_same.l0]) x.length 0 k (by omega) hk
    simpa using this
  · rw [if_neg (by omega)]
    congr 1
    symm
    rw [decide_eq_false_iff_not]
    exact fun h => hl (by rw [h])
theorem lsame_f (x y : List ByteArray) (hx : x.length < 4611686018427387904) (k : Nat) (hk : x.length < k) : counterpaneref05_Same.f k x y = some (decide (x = y)) := by
  unfold counterpaneref05_Same.f
  by_cases hl : x.length = y.length
  · rw [if_pos (by omega)]
    have := eq_loop x y hl hx (fun k i => counterpaneref05_Same.l0 k x y i) (fun k i => by rw [counterpaneref05_Same.l0]) x.length 0 k (by omega) hk
    simpa using this
  · rw [if_neg (by omega)]
    congr 1
    symm
    rw [decide_eq_false_iff_not]
    exact fun h => hl (by rw [h])
theorem equal_f (x y : List ByteArray) (hx : x.length < 4611686018427387904) (k : Nat) (hk : x.length < k) : slices_Equal_string_string.f k x y = some (decide (x = y)) := by
  unfold slices_Equal_string_string.f
  by_cases hl : x.length = y.length
  · rw [if_pos (by omega)]
    have := eq_loop x y hl hx (fun k i => slices_Equal_string_string.l0 k x y (x.length : Int) i) (fun k i => by rw [slices_Equal_string_string.l0]; split <;> simp_all) x.length 0 k (by omega) hk
    simpa using this
  · rw [if_neg (by omega)]
    congr 1
    symm
    rw [decide_eq_false_iff_not]
    exact fun h => hl (by rw [h])

/-! ## hunks -/
def toS (h : Hk ByteArray) : S24 := ⟨(h.pos : Int), h.old, h.new⟩
theorem rdT_nat (xs : List S24) (i : Nat) (h : i < xs.length) : rd_T24 xs (i : Int) = xs[i] := by
  unfold rd_T24
  rw [Int.toNat_natCast, List.getD_eq_getElem?_getD, List.getElem?_eq_getElem h]
  rfl
theorem Same_self_l (xs : List S24) (hx : xs.length < 4611686018427387904) (M : Nat) (hM : ∀ h ∈ xs, h.f1.length < M ∧ h.f2.length < M) (hM2 : M < 4611686018427387904) :
    ∀ (d i k : Nat), i + d = xs.length → d + M < k → counterpaneref06_Same.l0 k xs xs (i : Int) = some true := by
  intro d
  induction d with
  | zero =>
    intro i k hd hk
    obtain ⟨k, rfl⟩ : ∃ m, k = m + 1 := ⟨k - 1, by omega⟩
    rw [counterpaneref06_Same.l0, if_neg (by omega)]
  | succ d ih =>
    intro i k hd hk
    obtain ⟨k, rfl⟩ : ∃ m, k = m + 1 := ⟨k - 1, by omega⟩
    have h1 : i < xs.length := by omega
    have hm := hM xs[i] (List.getElem_mem h1)
    rw [counterpaneref06_Same.l0, if_pos (by omega), if_pos (by omega), if_pos (by omega), rdT_nat _ _ h1, if_pos rfl, same_f _ _ (by omega) _ (by omega), decide_eq_true rfl, Option.bind_some, if_pos rfl,
      same_f _ _ (by omega) _ (by omega), decide_eq_true rfl, Option.bind_some, if_pos rfl, wrap_succ _ (by omega)]
    exact ih (i + 1) k (by omega) (by omega)
theorem Same_self (xs : List S24) (hx : xs.length < 4611686018427387904) (M : Nat) (hM : ∀ h ∈ xs, h.f1.length < M ∧ h.f2.length < M) (hM2 : M < 4611686018427387904) :
    counterpaneref06_Same.f (xs.length + M + 1) xs xs = some true := by
  unfold counterpaneref06_Same.f
  rw [if_pos rfl]
  exact Same_self_l xs hx M hM hM2 xs.length 0 _ (by omega) (by omega)
theorem costs_drop (l : List (Hk ByteArray)) (i : Nat) (h : i < l.length) : costs (l.drop i) = l[i].old.length + l[i].new.length + costs (l.drop (i + 1)) := by
  rw [List.drop_eq_getElem_cons h]
  rfl
theorem cost_l (l : List (Hk ByteArray)) (hl : l.length < 4611686018427387904) : ∀ (d i n k : Nat), i + d = l.length → d < k → n + costs (l.drop i) < 4611686018427387904 →
    diff_Cost.l0 k (n : Int) (l.map toS) (l.length : Int) (i : Int) = some ((n + costs (l.drop i) : Nat) : Int) := by
  intro d
  induction d with
  | zero =>
    intro i n k hd hk hb
    obtain ⟨k, rfl⟩ : ∃ m, k = m + 1 := ⟨k - 1, by omega⟩
    rw [diff_Cost.l0, if_neg (by omega), List.drop_eq_nil_of_le (by omega)]
    simp [costs]
  | succ d ih =>
    intro i n k hd hk hb
    obtain ⟨k, rfl⟩ : ∃ m, k = m + 1 := ⟨k - 1, by omega⟩
    have h1 : i < l.length := by omega
    have hc := costs_drop l i h1
    rw [diff_Cost.l0, if_pos (by omega), if_pos (by omega), if_pos (by rw [List.length_map]; omega), rdT_nat _ _ (by rw [List.length_map]; exact h1), List.getElem_map, wrap_succ _ (by omega),
      show (toS l[i]).f1 = l[i].old from rfl, show (toS l[i]).f2 = l[i].new from rfl, wrap_add _ _ (by omega), wrap_add _ _ (by omega), ih (i + 1) _ k (by omega) (by omega) (by omega)]
    congr 2
    omega
theorem cost_f (l : List (Hk ByteArray)) (hl : l.length < 4611686018427387904) (hc : costs l < 4611686018427387904) : diff_Cost.f (l.length + 1) (l.map toS) = some (costs l : Int) := by
  unfold diff_Cost.f
  rw [List.length_map]
  have := cost_l l hl l.length 0 0 (l.length + 1) (by omega) (by omega) (by simpa using hc)
  simpa using this
theorem rcost_l (l : List (Hk ByteArray)) (hl : l.length < 4611686018427387904) : ∀ (d i n k : Nat), i + d = l.length → d < k → n + costs (l.drop i) < 4611686018427387904 →
    counterpaneref06_Cost.l0 k (l.map toS) (n : Int) (i : Int) = some ((n + costs (l.drop i) : Nat) : Int) := by
  intro d
  induction d with
  | zero =>
    intro i n k hd hk hb
    obtain ⟨k, rfl⟩ : ∃ m, k = m + 1 := ⟨k - 1, by omega⟩
    rw [counterpaneref06_Cost.l0, if_neg (by rw [List.length_map]; omega), List.drop_eq_nil_of_le (by omega)]
    simp [costs]
  | succ d ih =>
    intro i n k hd hk hb
    obtain ⟨k, rfl⟩ : ∃ m, k = m + 1 := ⟨k - 1, by omega⟩
    have h1 : i < l.length := by omega
    have hc := costs_drop l i h1
    rw [counterpaneref06_Cost.l0, if_pos (by rw [List.length_map]; omega), if_pos (by omega), rdT_nat _ _ (by rw [List.length_map]; exact h1), List.getElem_map, wrap_succ _ (by omega),
      show (toS l[i]).f1 = l[i].old from rfl, show (toS l[i]).f2 = l[i].new from rfl, wrap_add _ _ (by omega), wrap_add _ _ (by omega), ih (i + 1) _ k (by omega) (by omega) (by omega)]
    congr 2
    omega
theorem rcost_f (l : List (Hk ByteArray)) (hl : l.length < 4611686018427387904) (hc : costs l < 4611686018427387904) : counterpaneref06_Cost.f (l.length + 1) (l.map toS) = some (costs l : Int) := by
  unfold counterpaneref06_Cost.f
  have := rcost_l l hl l.length 0 0 (l.length + 1) (by omega) (by omega) (by simpa using hc)
  simpa using this

/-! ## great -/
theorem mn_nat (a : Nat) : ∃ m : Nat, mn (a : Int) 3000 = (m : Int) ∧ m ≤ 3000 := ⟨min a 3000, by unfold mn; omega, by omega⟩
theorem great_end (x y : List ByteArray) (n : Nat) : ∃ r, (if (n : Int) ≥ 3000 then some true else if (x.length : Int) > 200 then some true else some (decide ((y.length : Int) > 200))) = some r ∧ (r = false → x.length ≤ 200 ∧ y.length ≤ 200 ∧ n < 3000) := by
  by_cases h1 : (n : Int) ≥ 3000
  · exact ⟨true, by rw [if_pos h1], by simp⟩
  · by_cases h2 : (x.length : Int) > 200
    · exact ⟨true, by rw [if_neg h1, if_pos h2], by simp⟩
    · refine ⟨decide ((y.length : Int) > 200), by rw [if_neg h1, if_neg h2], fun h => ?_⟩
      have := of_decide_eq_false h
      omega
theorem great_l1 (x y : List ByteArray) (hx : x.length < 100000000000000) (hy : y.length < 100000000000000) : ∀ (d i n k : Nat), i + d = y.length → d < k → n < 300000000000000 →
    ∃ r, counterpanelaw06_great.l1 k x y (n : Int) (i : Int) = some r ∧ (r = false → x.length ≤ 200 ∧ y.length ≤ 200) := by
  intro d
  induction d with
  | zero =>
    intro i n k hd hk hn
    obtain ⟨k, rfl⟩ : ∃ m, k = m + 1 := ⟨k - 1, by omega⟩
    obtain ⟨r, h1, h2⟩ := great_end x y n
    exact ⟨r, by rw [counterpanelaw06_great.l1, if_neg (by omega), h1], fun h => ⟨(h2 h).1, (h2 h).2.1⟩⟩
  | succ d ih =>
    intro i n k hd hk hn
    obtain ⟨k, rfl⟩ : ∃ m, k = m + 1 := ⟨k - 1, by omega⟩
    by_cases h3 : n < 3000
    · obtain ⟨m, hm, hm2⟩ := mn_nat (rdOf ByteArray.empty y (i : Int)).size
      obtain ⟨r, h1, h2⟩ := ih (i + 1) (n + m) k (by omega) (by omega) (by omega)
      exact ⟨r, by rw [counterpanelaw06_great.l1, if_pos (by omega), if_pos (by omega), if_pos (by omega), hm, wrap_add _ _ (by omega), wrap_succ _ (by omega), h1], h2⟩
    · obtain ⟨r, h1, h2⟩ := great_end x y n
      exact ⟨r, by rw [counterpanelaw06_great.l1, if_pos (by omega), if_neg (by omega), h1], fun h => ⟨(h2 h).1, (h2 h).2.1⟩⟩
theorem great_l0 (x y : List ByteArray) (hx : x.length < 100000000000000) (hy : y.length < 100000000000000) : ∀ (d i n k : Nat), i + d = x.length → d + y.length + 2 < k → n < 300000000000000 →
    ∃ r, counterpanelaw06_great.l0 k x y (n : Int) (i : Int) = some r ∧ (r = false → x.length ≤ 200 ∧ y.length ≤ 200) := by
  intro d
  induction d with
  | zero =>
    intro i n k hd hk hn
    obtain ⟨k, rfl⟩ : ∃ m, k = m + 1 + 1 := ⟨k - 2, by omega⟩
    obtain ⟨r, h1, h2⟩ := great_l1 x y hx hy y.length 0 n k (by omega) (by omega) hn
    exact ⟨r, by rw [counterpanelaw06_great.l0, if_neg (by omega), counterpanelaw06_great.j1]; exact h1, h2⟩
  | succ d ih =>
    intro i n k hd hk hn
    obtain ⟨k, rfl⟩ : ∃ m, k = m + 1 + 1 := ⟨k - 2, by omega⟩
    by_cases h3 : n < 3000
    · obtain ⟨m, hm, hm2⟩ := mn_nat (rdOf ByteArray.empty x (i : Int)).size
      obtain ⟨r, h1, h2⟩ := ih (i + 1) (n + m) (k + 1) (by omega) (by omega) (by omega)
      exact ⟨r, by rw [counterpanelaw06_great.l0, if_pos (by omega), if_pos (by omega), if_pos (by omega), hm, wrap_add _ _ (by omega), wrap_succ _ (by omega), h1], h2⟩
    · obtain ⟨r, h1, h2⟩ := great_l1 x y hx hy y.length 0 n k (by omega) (by omega) hn
      exact ⟨r, by rw [counterpanelaw06_great.l0, if_pos (by omega), if_neg (by omega), counterpanelaw06_great.j1]; exact h1, h2⟩
theorem great_f (x y : List ByteArray) (hx : x.length < 100000000000000) (hy : y.length < 100000000000000) : ∃ k r, counterpanelaw06_great.f k x y = some r ∧ (r = false → x.length ≤ 200 ∧ y.length ≤ 200) := by
  obtain ⟨r, h1, h2⟩ := great_l0 x y hx hy x.length 0 (x.length + y.length) (x.length + y.length + 3) (by omega) (by omega) (by omega)
  refine ⟨x.length + y.length + 3, r, ?_, h2⟩
  unfold counterpanelaw06_great.f
  rw [wrap_add _ _ (by omega)]
  exact h1
theorem great_any (x y : List ByteArray) (A : Option Addr) (c : Nat) (B : Option Addr) (d : Nat) (w : World) (hA : Kd.string.C w A x.length x) (hc : x.length ≤ c) (hB : Kd.string.C w B y.length y) (hd : y.length ≤ d)
    (hx : x.length < 100000000000000) (hy : y.length < 100000000000000) :
    ∃ r, (r = false → x.length ≤ 200 ∧ y.length ≤ 200) ∧ Calls Try.prog 10 #[.slice A x.length c, .slice B y.length d] w fun e w' => e = .returned (.bool r) ∧ Below w.heap.size w w' := by
  obtain ⟨k, r, h, h2⟩ := great_f x y hx hy
  exact ⟨r, h2, counterpanelaw06_great.calls k A c x B d y r w hA hc hB hd h⟩
theorem greatHunk_any (p : Int) (x y : List ByteArray) (A : Option Addr) (c : Nat) (B : Option Addr) (d : Nat) (w : World) (hA : Kd.string.C w A x.length x) (hc : x.length ≤ c) (hB : Kd.string.C w B y.length y) (hd : y.length ≤ d)
    (hx : x.length < 100000000000000) (hy : y.length < 100000000000000) :
    ∃ r, (r = false → x.length ≤ 200 ∧ y.length ≤ 200) ∧ Calls Try.prog 11 #[.agg #[.int .i64 p, .slice A x.length c, .slice B y.length d]] w fun e w' => e = .returned (.bool r) ∧ Below w.heap.size w w' := by
  obtain ⟨k, r, h, h2⟩ := great_f x y hx hy
  refine ⟨r, h2, counterpanelaw06_greatHunk.calls k p A c x B d y r w hA hc hB hd ?_⟩
  unfold counterpanelaw06_greatHunk.f
  rw [h]
  rfl
end Go.Proofs.Ytjclpepdjnffaaa
