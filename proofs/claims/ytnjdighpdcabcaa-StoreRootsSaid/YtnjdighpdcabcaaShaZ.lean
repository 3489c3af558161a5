/- The reference's Named. -/
import Derived.Test.YtnjdighpdcabcaaSi
import Derived.Test.YtnjdighpdcabcaaPStoreRootsx8
set_option linter.unusedVariables false
set_option linter.unusedSimpArgs false
namespace Go.Proofs.Ytnjdighpdcabcaa
open Go.RowKit Go.Proofs.YtnjdighpdcabcaaW.PrintWords Go.Proofs.YtnjdighpdcabcaaW.PrintLast
open Go.Proofs.Ytnjdighpdcabcaa.PStoreRoots

/-! ## the reference's Named -/
theorem bt_at (s : ByteArray) (i : Nat) (h : i < s.size) : bt s (i : Int) = ((s[i]'h).toNat : Int) := by
  unfold bt
  simp [h]
theorem named_l0 (s : ByteArray) (hs : s.size < 1000000000000) : ∀ (d i k : Nat), i + d = s.size → d < k → counterpaneref02_Named.l0 k s (i : Int) = some ((s.data.toList.drop i).all (fun b => hexN b.toNat) && decide (s.size = 64)) := by
  intro d
  induction d with
  | zero =>
    intro i k hd hk
    obtain ⟨k, rfl⟩ : ∃ m, k = m + 1 := ⟨k - 1, by omega⟩
    rw [counterpaneref02_Named.l0, if_neg (by omega), List.drop_eq_nil_of_le (by simp; omega)]
    congr 1
    by_cases h : s.size = 64
    · simp [h]
    · have h2 : ¬ ((s.size : Int) = 64) := by omega
      simp [h, h2]
  | succ d ih =>
    intro i k hd hk
    obtain ⟨k, rfl⟩ : ∃ m, k = m + 1 := ⟨k - 1, by omega⟩
    have hp : i < s.size := by omega
    have hdr : s.data.toList.drop i = (s[i]'hp) :: s.data.toList.drop (i + 1) := by
      rw [List.drop_eq_getElem_cons (by simpa using hp)]
      rfl
    have hih := ih (i + 1) k (by omega) (by omega)
    have hw : wrap64 ((i : Int) + 1) = ((i + 1 : Nat) : Int) := by unfold wrap64; omega
    rw [counterpaneref02_Named.l0, if_pos (by omega), if_pos (by omega), bt_at s i hp, hw, hih, hdr, List.all_cons]
    clear hw hih hdr ih
    obtain ⟨b, hb⟩ : ∃ b, b = (s[i]'hp).toNat := ⟨_, rfl⟩
    rw [← hb]
    clear hb
    by_cases h48 : (b : Int) < 48
    · rw [if_pos h48, if_pos (by omega), show hexN b = false from decide_eq_false (by omega)]
      rfl
    · rw [if_neg h48]
      by_cases h57 : (b : Int) > 57
      · rw [if_pos h57]
        by_cases h97 : (b : Int) < 97
        · rw [if_pos h97, show hexN b = false from decide_eq_false (by omega)]
          rfl
        · rw [if_neg h97]
          by_cases h102 : (b : Int) > 102
          · rw [if_pos h102, show hexN b = false from decide_eq_false (by omega)]
            rfl
          · rw [if_neg h102, show hexN b = true from decide_eq_true (by omega), Bool.true_and]
      · rw [if_neg h57, show hexN b = true from decide_eq_true (by omega), Bool.true_and]
theorem named_ref (s : ByteArray) (hs : s.size < 1000000000000) (w : World) :
    Calls Try.prog 10 #[.string s] w fun e w' => e = .returned (.bool (named s)) ∧ Below w.heap.size w w' := by
  refine (counterpaneref02_Named.calls (s.size + 1) s (named s) w ?_).mono ?_
  · have := named_l0 s hs s.size 0 (s.size + 1) (by omega) (by omega)
    rw [List.drop_zero, Bool.and_comm] at this
    exact this
  · rintro e w' ⟨rfl, hD⟩
    exact ⟨rfl, hD.below⟩

/-! ## two sums compared -/
end Go.Proofs.Ytnjdighpdcabcaa
