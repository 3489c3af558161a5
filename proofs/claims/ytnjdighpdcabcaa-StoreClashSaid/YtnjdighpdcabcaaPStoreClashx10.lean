-- PRINTED BY print.sh 35421559b90ae4d0a3588c463048766b98c2df88dd9212a6774a882060cdf62d: not written by this session
import Derived.Test.YtnjdighpdcabcaaPStoreClashx0
namespace Go.Proofs.Ytnjdighpdcabcaa.PStoreClash
open Go.RowKit Go.Proofs.YtnjdighpdcabcaaW.PrintWords Go.Proofs.YtnjdighpdcabcaaW.PrintLast Go.Proofs.YtnjdighpdcabcaaW.PrintMore
attribute [local go_sem] max2_int min2_int max_two min_two max_three min_three max_four min_four   -- for this text's walks alone
set_option linter.unusedVariables false
set_option linter.unusedSimpArgs false

-- NOT PRINTED: function 38 (counterpaneref02_Sum)

-- NOT PRINTED: function 17 (counterpaneref02_Name)

-- NOT PRINTED: function 31 (disk_right)

-- NOT PRINTED: function 52 (maps_clone)

-- NOT PRINTED: function 37 (disk_files_string_byte_37)

-- NOT PRINTED: function 18 (disk_Of)

/-! ### counterpaneref03_File: function 19 -/
def counterpaneref03_File.f (a0 : ByteArray) : Option (ByteArray) := if 0 ≤ 32 then (if 32 ≤ (a0.size : Int) then (if 2 + (a0.extract 0 32).size ≤ 9223372036854775807 then (some ((⟨#[111, 46]⟩ : ByteArray) ++ (a0.extract 0 32))) else (none)) else (none)) else (none)
set_option maxHeartbeats 8000000 in
set_option maxRecDepth 100000 in
theorem counterpaneref03_File.calls (a0 : ByteArray) (r : ByteArray) (w : World) (h : counterpaneref03_File.f a0 = some r) :
    Calls Try.prog 19 #[.string a0] w fun e w' => e = .returned (.string r) ∧ Drawn0 w w' := by
  have H : (if 0 ≤ 32 then (if 32 ≤ (a0.size : Int) then (if 2 + (a0.extract 0 32).size ≤ 9223372036854775807 then (some ((⟨#[111, 46]⟩ : ByteArray) ++ (a0.extract 0 32))) else (none)) else (none)) else (none)) = some r := h
  clear h
  by_cases c2 : 0 ≤ 32
  · rw [if_pos c2] at H
    have c2b0 := eq_true c2
    have c2b1 : decide (0 ≤ 32) = true := decide_eq_true c2
    clear c2
    by_cases c3 : 32 ≤ (a0.size : Int)
    · rw [if_pos c3] at H
      have c3b0 := eq_true c3
      have c3b1 : decide (32 ≤ (a0.size : Int)) = true := decide_eq_true c3
      clear c3
      by_cases c4 : 2 + (a0.extract 0 32).size ≤ 9223372036854775807
      · rw [if_pos c4] at H
        have c4b0 := eq_true c4
        have c4b1 : decide (2 + (a0.extract 0 32).size ≤ 9223372036854775807) = true := decide_eq_true c4
        try have c4b2 : (9223372036854775807 < 2 + (a0.extract 0 32).size) = False := eq_false (Nat.not_lt.2 c4)
        obtain rfl := Option.some.inj H
        go_enter Try.func19, Try.ntmps19
        go_wp2
        go_ret
        exact ⟨by first | rfl | (simp; done) | (simp [*]; done), by repeat (first | exact Drawn0.refl _ | apply Drawn0.step)⟩
      · rw [if_neg c4] at H
        exact absurd H (by simp)
    · rw [if_neg c3] at H
      exact absurd H (by simp)
  · rw [if_neg c2] at H
    exact absurd H (by simp)

-- NOT PRINTED: function 5 (counterpanelaw03_StoreClash)

end Go.Proofs.Ytnjdighpdcabcaa.PStoreClash
