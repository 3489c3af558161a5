/- A part of a path: the reference's part. -/
import Derived.Test.YtfiemgadoglhiaaDoorPathJ
set_option linter.unusedVariables false
set_option linter.unusedSimpArgs false
namespace Go.Proofs.YtfiemgadoglhiaaDoor
open Go.RowKit

theorem all_letters (s : ByteArray) (h : ∀ j (hj : j < s.size), letterN (s[j]'hj).toNat = true) : ((bl s).all fun b => letterN b.toNat) = true := by
  rw [List.all_eq_true]
  intro b hb
  obtain ⟨j, hj, rfl⟩ := List.getElem_of_mem hb
  have := bl_get s j hj
  rw [List.getElem?_eq_getElem hj] at this
  rw [Option.some.inj this]
  exact h j hj
theorem not_letters (s : ByteArray) (j : Nat) (hj : j < s.size) (h : letterN (s[j]'hj).toNat = false) : ((bl s).all fun b => letterN b.toNat) = false := by
  rw [List.all_eq_false]
  have := bl_get s j hj
  obtain ⟨hj', e⟩ := List.getElem?_eq_some_iff.1 this
  exact ⟨_, List.getElem_mem hj', by rw [e, h]; simp⟩
set_option maxRecDepth 100000 in
set_option maxHeartbeats 2000000 in
theorem rpart (s : ByteArray) (w : World) (hs : s.size ≤ 140737488351232) :
    Calls Tryd.prog 23 #[.string s] w fun e w' => e = .returned (.bool (partOk 16 (bl s))) ∧ Below w.heap.size w w' := by
  obtain ⟨q, hq⟩ : ∃ q, q = (bl s).all fun b => letterN b.toNat := ⟨_, rfl⟩
  obtain ⟨r, hr⟩ : ∃ r, r = partOk 16 (bl s) := ⟨_, rfl⟩
  have e : r = (!s.toList.isEmpty && decide ((s.size : Int) ≤ 16) && !(s.toList == [46]) && !(s.toList == [46, 46]) && q) := by
    have hl : s.toList = bl s := ByteArray.toList_eq s
    rw [hr, hq, hl]
    exact partOk_eq (bl s)
  rw [← hr]
  have hem : s.toList.isEmpty = decide (s.size = 0) := by
    rw [ByteArray.toList_eq s]
    have : s.data.toList.length = s.size := rfl
    rw [← this]
    generalize s.data.toList = l
    cases l <;> simp
  rw [hem] at e
  clear hem hr
  by_cases h1 : s.size < 1
  · have h1' : (s.size : Int) < 1 := by omega
    have hr : r = false := by rw [e, decide_eq_true (by omega : s.size = 0)]; rfl
    clear e h1 hq
    subst hr
    go_enter Tryd.func23, Tryd.ntmps23
    go_wp2_with fail
    go_ret
    exact ⟨rfl, Below.refl _ _⟩
  have h1' : ¬ (s.size : Int) < 1 := by omega
  rw [decide_eq_false (by omega : ¬ s.size = 0)] at e
  by_cases h2 : 16 < s.size
  · have h2' : (16 : Int) < (s.size : Int) := by omega
    have hr : r = false := by rw [e, decide_eq_false (by omega : ¬ (s.size : Int) ≤ 16)]; simp
    clear e h1 h2 hq
    subst hr
    go_enter Tryd.func23, Tryd.ntmps23
    go_wp2_with fail
    go_ret
    exact ⟨rfl, Below.refl _ _⟩
  have h2' : ¬ (16 : Int) < (s.size : Int) := by omega
  rw [decide_eq_true (by omega : (s.size : Int) ≤ 16)] at e
  cases h3 : s.toList == [46] with
  | true =>
    have hr : r = false := by rw [e, h3]; simp
    have h3' := beq_iff_eq.1 h3
    clear e h1 h2 hq
    subst hr
    go_enter Tryd.func23, Tryd.ntmps23
    go_wp2_with fail
    go_ret
    exact ⟨rfl, Below.refl _ _⟩
  | false =>
    cases h4 : s.toList == [46, 46] with
    | true =>
      have hr : r = false := by rw [e, h4]; simp
      have h3' := beq_eq_false_iff_ne.1 h3
      have h4' := beq_iff_eq.1 h4
      clear e h1 h2 hq
      subst hr
      go_enter Tryd.func23, Tryd.ntmps23
      go_wp2_with fail
      go_ret
      exact ⟨rfl, Below.refl _ _⟩
    | false =>
      have h3' := beq_eq_false_iff_ne.1 h3
      have h4' := beq_eq_false_iff_ne.1 h4
      rw [h3, h4] at e
      have e' : r = q := by rw [e]; simp
      subst e'
      have HQ := Lib.hid hq
      clear e hq h1 h2
      obtain ⟨n, hn⟩ : ∃ n, n = s.size := ⟨_, rfl⟩
      have HN := Lib.hid hn.symm
      go_enter Tryd.func23, Tryd.ntmps23
      go_wp2_with fail
      go_loopw [3] (fun vi wr => ∃ i : Nat, i ≤ n ∧ vi = .int .i64 (i : Int) ∧ (∀ j (hj : j < s.size), j < i → letterN (s[j]'hj).toNat = true) ∧ wr = w) (fun vi _ => n - (intOf vi).toNat)
      case atStart => exact ⟨0, Nat.zero_le _, rfl, fun j hj h => absurd h (Nat.not_lt_zero _), rfl⟩
      case round =>
        obtain ⟨i, hi, rfl, hj, rfl⟩ := hrel
        have HJ := Lib.hid hj
        clear hj h3 h4 h3' h4'
        by_cases hin : i < n
        · have his : i < s.size := by rw [HN.out]; exact hin
          have his1 : (i : Int) < (s.size : Int) := by omega
          have hi0 : (0 : Int) ≤ (i : Int) := by omega
          go_wp2_with fail
          all_goals (try simp only [bne_eq_false_iff_eq] at *)
          all_goals first
            | (go_ret
               refine ⟨?_, Below.refl _ _⟩
               rw [HQ.out, not_letters s i his (by unfold letterN; exact decide_eq_false (by omega))]
               rfl)
            | (refine ⟨⟨i + 1, by omega, by go_num, fun j hj hij => ?_, trivial⟩, by first | (simp [intOf]; done) | (simp [intOf]; omega)⟩
               by_cases hji : j = i
               · subst hji
                 unfold letterN
                 exact decide_eq_true (by omega)
               · exact HJ.out j hj (by omega))
        · obtain rfl : i = n := by omega
          have hin1 : ¬ (i : Int) < (s.size : Int) := by omega
          go_wp2_with fail
          go_ret
          refine ⟨?_, Below.refl _ _⟩
          rw [HQ.out, all_letters s (fun j hj => HJ.out j hj (by omega))]
          rfl
end Go.Proofs.YtfiemgadoglhiaaDoor
