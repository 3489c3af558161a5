/- Walks of chapter 05: is a text a token? -/
import Derived.Test.YtmhpnidhokcaeaaDoorLinesW1
set_option linter.unusedVariables false
set_option linter.unusedSimpArgs false
namespace Go.Proofs.YtmhpnidhokcaeaaDoor
open Go.RowKit

theorem token_yes (s : ByteArray) (h0 : 0 < s.size) (h : ∀ j (hj : j < s.size), inB (s[j]'hj) = true) : tokenB s.data.toList = true := by
  obtain ⟨⟨l⟩⟩ := s
  have h0' : 0 < l.length := h0
  refine (tokenB_iff l).2 ⟨fun e => by rw [e] at h0'; exact absurd h0' (Nat.lt_irrefl 0), ?_⟩
  intro b hb
  obtain ⟨j, hj, rfl⟩ := List.getElem_of_mem hb
  exact h j hj
theorem token_no (s : ByteArray) (j : Nat) (hj : j < s.size) (h : inB (s[j]'hj) = false) : tokenB s.data.toList = false := by
  obtain ⟨⟨l⟩⟩ := s
  rw [Bool.eq_false_iff]
  intro ht
  have := ((tokenB_iff l).1 ht).2 _ (List.getElem_mem (show j < l.length from hj))
  have h' : inB (l[j]'hj) = false := h
  rw [h'] at this
  cases this
theorem token_nil (s : ByteArray) (h : s.size = 0) : tokenB s.data.toList = false := by
  have : s.data.toList = [] := List.eq_nil_of_length_eq_zero h
  rw [this]
  rfl
set_option maxRecDepth 100000 in
theorem token_any (s : ByteArray) (w : World) (hs : s.size ≤ 140737488351232) :
    Calls Tryd.prog 11 #[.string s] w fun e w' => e = .returned (.bool (tokenB s.data.toList)) ∧ w' = w := by
  obtain ⟨r, hr⟩ : ∃ r, r = tokenB s.data.toList := ⟨_, rfl⟩
  rw [← hr]
  have HR := Lib.hid hr
  clear hr
  obtain ⟨n, hn⟩ : ∃ n, n = s.size := ⟨_, rfl⟩
  have HN := Lib.hid hn.symm
  go_enter Tryd.func11, Tryd.ntmps11
  go_wp2_with fail
  go_loopw [6] (fun vi wr => ∃ i : Nat, i ≤ n ∧ vi = .int .i64 (i : Int) ∧ (∀ j (hj : j < s.size), j < i → inB (s[j]'hj) = true) ∧ wr = w) (fun vi _ => n - (intOf vi).toNat)
  case atStart => exact ⟨0, Nat.zero_le _, rfl, fun j hj h => absurd h (Nat.not_lt_zero _), rfl⟩
  case round =>
    obtain ⟨i, hi, rfl, hj, hw⟩ := hrel
    have hw2 := hw.symm
    clear hw
    subst hw2
    have HJ := Lib.hid hj
    clear hj
    by_cases hin : i < s.size
    · have hin1 : (i : Int) < (s.size : Int) := by omega
      have hi0 : (0 : Int) ≤ (i : Int) := by omega
      go_wp2_with fail
      refine (in_any (s[i]'hin) w).mono ?_
      obtain ⟨q, hq⟩ : ∃ q, q = inB (s[i]'hin) := ⟨_, rfl⟩
      rw [← hq]
      have HQ := Lib.hid hq
      clear hq
      rintro e w' ⟨rfl, hw⟩
      have hw2 := hw.symm
      clear hw
      subst hw2
      cases q with
      | true =>
        go_wp2_with fail
        refine ⟨⟨i + 1, by omega, by go_num, fun j hj h => ?_, trivial⟩, by first | (simp [intOf]; done) | (simp [intOf]; omega)⟩
        by_cases hji : j = i
        · subst hji
          exact HQ.out.symm
        · exact HJ.out j hj (by omega)
      | false =>
        go_wp2_with fail
        go_ret
        exact ⟨by rw [HR.out, token_no s i hin HQ.out.symm]; rfl, rfl⟩
    · have hin1 : ¬ (i : Int) < (s.size : Int) := by omega
      have hie : i = n := by omega
      have HIE := Lib.hid hie
      clear hie
      by_cases h0 : s.size = 0
      · have hem : s.toList.isEmpty = true := by
          rw [ByteArray.toList_eq, List.eq_nil_of_length_eq_zero (show s.data.toList.length = 0 from h0)]
          rfl
        have HV := Lib.hid (HR.out.trans (token_nil s h0))
        clear h0
        go_wp2_with fail
        go_ret
        exact ⟨by rw [HV.out]; simp [hem], rfl⟩
      · have hem : s.toList.isEmpty = false := by
          rw [ByteArray.toList_eq]
          cases he : s.data.toList with
          | nil => exact absurd (congrArg List.length he) h0
          | cons b l => rfl
        have HV := Lib.hid (HR.out.trans (token_yes s (by omega) (fun j hj => HJ.out j hj (by have := HIE.out; omega))))
        clear h0
        go_wp2_with fail
        go_ret
        exact ⟨by rw [HV.out]; simp [hem], rfl⟩
end Go.Proofs.YtmhpnidhokcaeaaDoor
