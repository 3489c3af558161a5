/- Walks of chapter 05: the reference's in and Token. -/
import Derived.Test.YtmhpnidhokcaeaaDoorLinesW2
set_option linter.unusedVariables false
set_option linter.unusedSimpArgs false
namespace Go.Proofs.YtmhpnidhokcaeaaDoor
open Go.RowKit

set_option maxRecDepth 100000 in
theorem rin_any (b : UInt8) (w : World) :
    Calls Tryd.prog 34 #[.int .u8 (b.toNat : Int)] w fun e w' => e = .returned (.bool (inB b)) ∧ w' = w := by
  obtain ⟨r, hr⟩ : ∃ r, r = inB b := ⟨_, rfl⟩
  rw [← hr]
  have HR := Lib.hid hr
  clear hr
  go_enter Tryd.func34, Tryd.ntmps34
  go_wp2_with fail
  all_goals go_ret
  all_goals
    refine ⟨?_, rfl⟩
    rw [HR.out]
    unfold inB inN
    show Ending.returned (Value.bool _) = _
    congr 2
    rw [Bool.eq_iff_iff]
    simp
    try omega
set_option maxRecDepth 100000 in
theorem rtoken_any (s : ByteArray) (w : World) (hs : s.size ≤ 140737488351232) :
    Calls Tryd.prog 22 #[.string s] w fun e w' => e = .returned (.bool (tokenB s.data.toList)) ∧ w' = w := by
  obtain ⟨r, hr⟩ : ∃ r, r = tokenB s.data.toList := ⟨_, rfl⟩
  rw [← hr]
  have HR := Lib.hid hr
  clear hr
  obtain ⟨n, hn⟩ : ∃ n, n = s.size := ⟨_, rfl⟩
  have HN := Lib.hid hn.symm
  go_enter Tryd.func22, Tryd.ntmps22
  go_wp2_with fail
  go_loopw [3] (fun vi wr => ∃ i : Nat, i ≤ n ∧ vi = .int .i64 (i : Int) ∧ (∀ j (hj : j < s.size), j < i → inB (s[j]'hj) = true) ∧ wr = w) (fun vi _ => n - (intOf vi).toNat)
  case atStart => exact ⟨0, Nat.zero_le _, rfl, fun j hj h => absurd h (Nat.not_lt_zero _), rfl⟩
  case round =>
    obtain ⟨i, hi, rfl, hj, hw⟩ := hrel
    have hw2 := hw.symm
    clear hw
    subst hw2
    have HJ := Lib.hid hj
    clear hj
    by_cases hin : i < s.size
    · have hin1 : (i : Int) < (s.size : Int) := by omega
      have hi0 : (0 : Int) ≤ (i : Int) := by omega
      go_wp2_with fail
      refine (rin_any (s[i]'hin) w).mono ?_
      obtain ⟨q, hq⟩ : ∃ q, q = inB (s[i]'hin) := ⟨_, rfl⟩
      rw [← hq]
      have HQ := Lib.hid hq
      clear hq
      rintro e w' ⟨rfl, hw⟩
      have hw2 := hw.symm
      clear hw
      subst hw2
      cases q with
      | true =>
        go_wp2_with fail
        refine ⟨⟨i + 1, by omega, by go_num, fun j hj h => ?_, trivial⟩, by first | (simp [intOf]; done) | (simp [intOf]; omega)⟩
        by_cases hji : j = i
        · subst hji
          exact HQ.out.symm
        · exact HJ.out j hj (by omega)
      | false =>
        go_wp2_with fail
        go_ret
        exact ⟨by rw [HR.out, token_no s i hin HQ.out.symm]; rfl, rfl⟩
    · have hin1 : ¬ (i : Int) < (s.size : Int) := by omega
      have hie : i = n := by omega
      have HIE := Lib.hid hie
      clear hie
      by_cases h0 : s.size = 0
      · have h0' : ¬ (0 : Int) < (s.size : Int) := by omega
        have HV := Lib.hid (HR.out.trans (token_nil s h0))
        clear h0
        go_wp2_with fail
        go_ret
        exact ⟨by rw [HV.out]; simp_all, rfl⟩
      · have h0' : (0 : Int) < (s.size : Int) := by omega
        have HV := Lib.hid (HR.out.trans (token_yes s (by omega) (fun j hj => HJ.out j hj (by have := HIE.out; omega))))
        clear h0
        go_wp2_with fail
        go_ret
        exact ⟨by rw [HV.out]; simp_all, rfl⟩
end Go.Proofs.YtmhpnidhokcaeaaDoor
