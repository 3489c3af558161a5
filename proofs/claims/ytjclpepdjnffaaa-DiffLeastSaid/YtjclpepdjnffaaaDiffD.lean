/- The table of prices: its recursion, as it is reckoned. -/
import Derived.Test.YtjclpepdjnffaaaDiffW2
set_option linter.unusedVariables false
set_option linter.unusedSimpArgs false
namespace Go.Proofs.Ytjclpepdjnffaaa
open Go.RowKit Go.Proofs.YtjclpepdjnffaaaW.PrintWords Go.Proofs.YtjclpepdjnffaaaW.PrintLast
section
variable {α : Type} [DecidableEq α]
theorem apartBy_nil (b : List α) : apartBy [] b = b.length := by unfold apartBy; rw [lcs_nil]; simp
theorem apartBy_nil2 (a : List α) : apartBy a [] = a.length := by unfold apartBy; rw [lcs_nil2]; simp
theorem apartBy_cons (x y : α) (ls ms : List α) : apartBy (x :: ls) (y :: ms) = if x = y then min (min (apartBy ls (y :: ms)) (apartBy (x :: ls) ms) + 1) (apartBy ls ms) else min (apartBy ls (y :: ms)) (apartBy (x :: ls) ms) + 1 := by
  have h := lcs_cons x y ls ms
  have h0 := apartBy_eq (x :: ls) (y :: ms)
  have h1 := apartBy_eq ls (y :: ms)
  have h2 := apartBy_eq (x :: ls) ms
  have h3 := apartBy_eq ls ms
  simp only [List.length_cons] at h0 h1 h2 h3
  by_cases e : x = y
  · rw [if_pos e] at h ⊢
    omega
  · rw [if_neg e] at h ⊢
    omega
end
/-- The price of what is behind two places. -/
def DD (a b : List ByteArray) (i k : Nat) : Nat := apartBy (a.drop i) (b.drop k)
theorem DD_le (a b : List ByteArray) (i k : Nat) : DD a b i k ≤ a.length + b.length := by
  have := apartBy_eq (a.drop i) (b.drop k)
  simp only [List.length_drop] at this
  unfold DD
  omega
def prc (na nb : Nat) (T : Nat → Nat → Nat) (i k : Nat) : Option Nat := if na < i ∨ nb < k then none else some (T i k)
theorem DD_end (a b : List ByteArray) : DD a b a.length b.length = 0 := by
  unfold DD
  rw [List.drop_eq_nil_of_le (Nat.le_refl _), apartBy_nil, List.length_drop]
  omega
def best0 (a b : List ByteArray) (i k : Nat) : Option Nat := (omin (prc a.length b.length (DD a b) (i + 1) k) (prc a.length b.length (DD a b) i (k + 1))).map (· + 1)
theorem best0_none (a b : List ByteArray) (i k : Nat) (hi : i ≤ a.length) (hk : k ≤ b.length) : (best0 a b i k).isNone = decide (i = a.length ∧ k = b.length) := by
  unfold best0 prc
  by_cases h1 : i = a.length
  · by_cases h2 : k = b.length
    · rw [if_pos (by omega), if_pos (by omega), decide_eq_true ⟨h1, h2⟩]
      rfl
    · rw [if_pos (by omega), if_neg (by omega), decide_eq_false (by omega)]
      rfl
  · rw [if_neg (by omega), decide_eq_false (by omega)]
    by_cases h2 : k = b.length
    · rw [if_pos (by omega)]
      rfl
    · rw [if_neg (by omega)]
      rfl
def alikeB (a b : List ByteArray) (i k : Nat) : Bool := decide (i < a.length ∧ k < b.length ∧ a.getD i ByteArray.empty = b.getD k ByteArray.empty)
theorem getD_at (a : List ByteArray) (i : Nat) (h : i < a.length) : a.getD i ByteArray.empty = a[i] := by
  rw [List.getD_eq_getElem?_getD, List.getElem?_eq_getElem h]
  rfl
theorem best0_alike (a b : List ByteArray) (i k : Nat) (h : alikeB a b i k = true) : omin (best0 a b i k) (prc a.length b.length (DD a b) (i + 1) (k + 1)) = some (DD a b i k) := by
  obtain ⟨h1, h2, h3⟩ := of_decide_eq_true h
  rw [getD_at _ _ h1, getD_at _ _ h2] at h3
  have e1 : a.drop i = a[i] :: a.drop (i + 1) := List.drop_eq_getElem_cons h1
  have e2 : b.drop k = b[k] :: b.drop (k + 1) := List.drop_eq_getElem_cons h2
  unfold best0 prc
  rw [if_neg (by omega), if_neg (by omega), if_neg (by omega)]
  show some (min (min (DD a b (i + 1) k) (DD a b i (k + 1)) + 1) (DD a b (i + 1) (k + 1))) = some (DD a b i k)
  unfold DD
  rw [e1, e2, apartBy_cons, if_pos h3]
theorem best0_other (a b : List ByteArray) (i k : Nat) (hi : i ≤ a.length) (hk : k ≤ b.length) (h : alikeB a b i k = false) (hn : ¬ (i = a.length ∧ k = b.length)) : best0 a b i k = some (DD a b i k) := by
  have h := of_decide_eq_false h
  unfold best0 prc
  by_cases h1 : i = a.length
  · have h2 : k ≠ b.length := fun e => hn ⟨h1, e⟩
    rw [if_pos (by omega), if_neg (by omega)]
    show some (DD a b i (k + 1) + 1) = _
    unfold DD
    rw [List.drop_eq_nil_of_le (by omega : a.length ≤ i), apartBy_nil, apartBy_nil, List.length_drop, List.length_drop]
    congr 1
    omega
  · by_cases h2 : k = b.length
    · rw [if_neg (by omega), if_pos (by omega)]
      show some (DD a b (i + 1) k + 1) = _
      unfold DD
      rw [List.drop_eq_nil_of_le (by omega : b.length ≤ k), apartBy_nil2, apartBy_nil2, List.length_drop, List.length_drop]
      congr 1
      omega
    · have g1 : i < a.length := by omega
      have g2 : k < b.length := by omega
      have h3 : ¬ a[i] = b[k] := fun e => h ⟨g1, g2, by rw [getD_at _ _ g1, getD_at _ _ g2, e]⟩
      have e1 : a.drop i = a[i] :: a.drop (i + 1) := List.drop_eq_getElem_cons g1
      have e2 : b.drop k = b[k] :: b.drop (k + 1) := List.drop_eq_getElem_cons g2
      rw [if_neg (by omega), if_neg (by omega)]
      show some (min (DD a b (i + 1) k) (DD a b i (k + 1)) + 1) = _
      unfold DD
      rw [e1, e2, apartBy_cons, if_neg h3]
theorem okF_prc (a b : List ByteArray) (hn : a.length + b.length ≤ 1200) (i k : Nat) : okF (prc a.length b.length (DD a b) i k) := by
  intro n h
  unfold prc at h
  split at h
  · cases h
  · cases h
    have := DD_le a b i k
    omega
theorem okF_omin {x y : Option Nat} (hx : okF x) (hy : okF y) : okF (omin x y) := by
  intro n h
  cases x with
  | none => exact hy n h
  | some x =>
    cases y with
    | none => exact hx n h
    | some y =>
      cases h
      have := hx x rfl
      have := hy y rfl
      omega
theorem okF_best0 (a b : List ByteArray) (hn : a.length + b.length ≤ 1200) (i k : Nat) : okF (best0 a b i k) := by
  intro n h
  unfold best0 at h
  obtain ⟨m, hm, rfl⟩ := Option.map_eq_some_iff.1 h
  have : m ≤ 1200 := by
    have key : ∀ i k m, prc a.length b.length (DD a b) i k = some m → m ≤ 1200 := by
      intro i k m h
      unfold prc at h
      split at h
      · cases h
      · cases h
        have := DD_le a b i k
        omega
    cases hx : prc a.length b.length (DD a b) (i + 1) k with
    | none =>
      rw [hx] at hm
      exact key _ _ _ hm
    | some x =>
      cases hy : prc a.length b.length (DD a b) i (k + 1) with
      | none =>
        rw [hx, hy] at hm
        cases hm
        exact key _ _ _ hx
      | some y =>
        rw [hx, hy] at hm
        cases hm
        have := key _ _ _ hx
        omega
  omega
/-- at, in one word. -/
theorem at_any (w : World) (pb base : Nat) (A : Option Addr) (na ca : Nat) (B : Option Addr) (nb cb : Nat) (v : Value) (T : Nat → Nat → Nat) (blk : Nat → Nat) (i k : Nat) (h : PrAt w pb base A na ca B nb cb v T blk) :
    Calls Try.prog 24 #[.pointer (some ⟨pb, 0, none⟩), .int .i64 (i : Int), .int .i64 (k : Int)] w fun e w' => e = .returned (.float .f64 (fv (prc na nb T i k))) ∧ Below w.heap.size w w' := by
  by_cases hik : na < i ∨ nb < k
  · rw [prc, if_pos hik]
    exact at_out w pb A na ca B nb cb v i k h.head hik
  · rw [prc, if_neg hik]
    exact at_in w pb base A na ca B nb cb v T blk i k h (by omega) (by omega)
end Go.Proofs.Ytjclpepdjnffaaa
