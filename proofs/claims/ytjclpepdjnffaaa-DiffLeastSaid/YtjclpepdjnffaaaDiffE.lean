/- Diff's steps, in plain Lean. -/
import Derived.Test.YtjclpepdjnffaaaDiffD
set_option linter.unusedVariables false
set_option linter.unusedSimpArgs false
namespace Go.Proofs.Ytjclpepdjnffaaa
open Go.RowKit Go.Proofs.YtjclpepdjnffaaaW.PrintWords Go.Proofs.YtjclpepdjnffaaaW.PrintLast

theorem makes_length {α : Type} : ∀ (l : List (Hk α)) (x : List α) (m : Nat) (z : List α), Makes x m l z → l.length ≤ costs l
  | [], _, _, _, _ => Nat.zero_le _
  | h :: l, x, m, z, hm => by
    obtain ⟨h1, _, q, r, _, _, hl⟩ := hm
    have := makes_length l _ _ _ hl
    have h4 : costs (h :: l) = h.old.length + h.new.length + costs l := by simp [costs, Hk.cost]
    simp only [List.length_cons]
    omega
theorem hunks_length (a b : List ByteArray) : (hunks a b).length ≤ a.length + b.length := by
  have h1 := makes_length _ _ _ _ (hunks_makes a b)
  rw [hunks_cost] at h1
  have := apartBy_eq a b
  omega
theorem hunks_costs (a b : List ByteArray) : costs (hunks a b) ≤ a.length + b.length := by
  rw [hunks_cost]
  have := apartBy_eq a b
  omega
/-- Where Diff stands. -/
def At6 (a b : List ByteArray) (i k : Nat) (done : List (Hk ByteArray)) (cur : Option (Hk ByteArray)) : Prop := done ++ script (a.drop i) (b.drop k) k cur = hunks a b
theorem at_start (a b : List ByteArray) : At6 a b 0 0 [] none := rfl
theorem at_bounds {a b : List ByteArray} {i k : Nat} {done : List (Hk ByteArray)} {cur : Option (Hk ByteArray)} (h : At6 a b i k done cur) (hn : a.length + b.length ≤ 1200) : done.length ≤ 1200 ∧ cost0 cur ≤ 1200 := by
  have h1 := hunks_length a b
  have h2 := hunks_costs a b
  unfold At6 at h
  rw [← h] at h1 h2
  rw [costs_append, script_cost _ _ _ _ _ (Nat.le_refl _)] at h2
  rw [List.length_append] at h1
  omega
theorem at_end {a b : List ByteArray} {done : List (Hk ByteArray)} {cur : Option (Hk ByteArray)} (h : At6 a b a.length b.length done cur) : done ++ cur.toList = hunks a b := by
  unfold At6 at h
  rw [List.drop_eq_nil_of_le (Nat.le_refl _), List.drop_eq_nil_of_le (Nat.le_refl _), script_nil] at h
  exact h
def keepB (a b : List ByteArray) (i k : Nat) : Bool := alikeB a b i k && decide (DD a b i k = DD a b (i + 1) (k + 1))
theorem keep_iff {a b : List ByteArray} {i k : Nat} (h1 : i < a.length) (h2 : k < b.length) : keepB a b i k = true ↔ a[i] = b[k] ∧ lcs (a[i] :: a.drop (i + 1)) (b[k] :: b.drop (k + 1)) = lcs (a.drop (i + 1)) (b.drop (k + 1)) + 1 := by
  have e1 : a.drop i = a[i] :: a.drop (i + 1) := List.drop_eq_getElem_cons h1
  have e2 : b.drop k = b[k] :: b.drop (k + 1) := List.drop_eq_getElem_cons h2
  have x0 := apartBy_eq (a.drop i) (b.drop k)
  have x1 := apartBy_eq (a.drop (i + 1)) (b.drop (k + 1))
  rw [e1, e2] at x0
  simp only [List.length_cons, List.length_drop] at x0 x1
  unfold keepB alikeB DD
  rw [e1, e2, Bool.and_eq_true, decide_eq_true_eq, decide_eq_true_eq, getD_at _ _ h1, getD_at _ _ h2]
  constructor
  · rintro ⟨⟨_, _, h3⟩, h4⟩
    refine ⟨h3, ?_⟩
    rw [h4] at x0
    omega
  · rintro ⟨h3, h4⟩
    refine ⟨⟨h1, h2, h3⟩, ?_⟩
    rw [h4] at x0
    omega
theorem at_keep {a b : List ByteArray} {i k : Nat} {done : List (Hk ByteArray)} {cur : Option (Hk ByteArray)} (h : At6 a b i k done cur) (hk : keepB a b i k = true) : At6 a b (i + 1) (k + 1) (done ++ cur.toList) none := by
  have hal := hk
  unfold keepB at hal
  rw [Bool.and_eq_true] at hal
  obtain ⟨h1, h2, _⟩ := of_decide_eq_true hal.1
  have hc := (keep_iff h1 h2).1 hk
  unfold At6 at h ⊢
  rw [List.drop_eq_getElem_cons h1, List.drop_eq_getElem_cons h2, script_both, if_pos hc] at h
  rw [List.append_assoc]
  exact h
def goesB (a b : List ByteArray) (i k : Nat) : Bool := ole (prc a.length b.length (DD a b) (i + 1) k) (prc a.length b.length (DD a b) i (k + 1))
theorem at_del {a b : List ByteArray} {i k : Nat} {done : List (Hk ByteArray)} {cur : Option (Hk ByteArray)} (h : At6 a b i k done cur) (hi : i ≤ a.length) (hk0 : k ≤ b.length) (hne : i < a.length ∨ k < b.length) (hk : keepB a b i k = false) (hg : goesB a b i k = true) :
    ∃ h1 : i < a.length, At6 a b (i + 1) k done (some (takeOut k a[i] cur)) := by
  have h1 : i < a.length := by
    by_cases h1 : i < a.length
    · exact h1
    · exfalso
      unfold goesB prc at hg
      rw [if_pos (by omega), if_neg (by omega)] at hg
      exact absurd hg (by simp [ole, ocmp])
  refine ⟨h1, ?_⟩
  unfold At6 at h ⊢
  by_cases h2 : k < b.length
  · have hc : ¬ (a[i] = b[k] ∧ lcs (a[i] :: a.drop (i + 1)) (b[k] :: b.drop (k + 1)) = lcs (a.drop (i + 1)) (b.drop (k + 1)) + 1) := fun e => by
      rw [(keep_iff h1 h2).2 e] at hk
      cases hk
    unfold goesB prc at hg
    rw [if_neg (by omega), if_neg (by omega), ole_some] at hg
    have hg := of_decide_eq_true hg
    unfold DD at hg
    have x0 := apartBy_eq (a.drop (i + 1)) (b.drop k)
    have x1 := apartBy_eq (a.drop i) (b.drop (k + 1))
    simp only [List.length_drop] at x0 x1
    rw [List.drop_eq_getElem_cons h1, List.drop_eq_getElem_cons h2, script_both, if_neg hc, if_pos (by
      rw [← List.drop_eq_getElem_cons h1, ← List.drop_eq_getElem_cons h2]
      omega), ← List.drop_eq_getElem_cons h2] at h
    exact h
  · rw [List.drop_eq_nil_of_le (by omega : b.length ≤ k), List.drop_eq_getElem_cons h1, script_del] at h
    rw [List.drop_eq_nil_of_le (by omega : b.length ≤ k)]
    exact h
theorem at_ins {a b : List ByteArray} {i k : Nat} {done : List (Hk ByteArray)} {cur : Option (Hk ByteArray)} (h : At6 a b i k done cur) (hi : i ≤ a.length) (hk0 : k ≤ b.length) (hne : i < a.length ∨ k < b.length) (hk : keepB a b i k = false) (hg : goesB a b i k = false) :
    ∃ h2 : k < b.length, At6 a b i (k + 1) done (some (putIn k b[k] cur)) := by
  have h2 : k < b.length := by
    by_cases h2 : k < b.length
    · exact h2
    · exfalso
      unfold goesB prc at hg
      rw [if_neg (by omega), if_pos (by omega)] at hg
      exact absurd hg (by simp [ole, ocmp])
  refine ⟨h2, ?_⟩
  unfold At6 at h ⊢
  by_cases h1 : i < a.length
  · have hc : ¬ (a[i] = b[k] ∧ lcs (a[i] :: a.drop (i + 1)) (b[k] :: b.drop (k + 1)) = lcs (a.drop (i + 1)) (b.drop (k + 1)) + 1) := fun e => by
      rw [(keep_iff h1 h2).2 e] at hk
      cases hk
    unfold goesB prc at hg
    rw [if_neg (by omega), if_neg (by omega), ole_some] at hg
    have hg := of_decide_eq_false hg
    unfold DD at hg
    have x0 := apartBy_eq (a.drop (i + 1)) (b.drop k)
    have x1 := apartBy_eq (a.drop i) (b.drop (k + 1))
    simp only [List.length_drop] at x0 x1
    rw [List.drop_eq_getElem_cons h1, List.drop_eq_getElem_cons h2, script_both, if_neg hc, if_neg (by
      rw [← List.drop_eq_getElem_cons h1, ← List.drop_eq_getElem_cons h2]
      omega), ← List.drop_eq_getElem_cons h1] at h
    exact h
  · rw [List.drop_eq_nil_of_le (by omega : a.length ≤ i), List.drop_eq_getElem_cons h2, script_ins] at h
    rw [List.drop_eq_nil_of_le (by omega : a.length ≤ i)]
    exact h
/-- The open hunk, or a new one. -/
def openK (k : Nat) (cur : Option (Hk ByteArray)) : Hk ByteArray := cur.getD ⟨k, [], []⟩
theorem takeOut_open (k : Nat) (x : ByteArray) (cur : Option (Hk ByteArray)) : takeOut k x cur = { openK k cur with old := (openK k cur).old ++ [x] } := by cases cur <;> rfl
theorem putIn_open (k : Nat) (x : ByteArray) (cur : Option (Hk ByteArray)) : putIn k x cur = { openK k cur with new := (openK k cur).new ++ [x] } := by cases cur <;> rfl
theorem open_cost (k : Nat) (cur : Option (Hk ByteArray)) : (openK k cur).old.length ≤ cost0 cur ∧ (openK k cur).new.length ≤ cost0 cur := by
  cases cur with
  | none => exact ⟨Nat.zero_le _, Nat.zero_le _⟩
  | some h => exact ⟨Nat.le_add_right _ _, Nat.le_add_left _ _⟩
end Go.Proofs.Ytjclpepdjnffaaa
