/- Walks of chapter 05: the program's Right and Join. -/
import Derived.Test.YtmhpnidhokcaeaaDoorLinesS3
import Derived.Test.YtmhpnidhokcaeaaDoorWLast
set_option linter.unusedVariables false
set_option linter.unusedSimpArgs false
namespace Go.Proofs.YtmhpnidhokcaeaaDoor
open Go Go.RowKit Go.Proofs.YtmhpnidhokcaeaaDoorW.PrintWords Go.Proofs.YtmhpnidhokcaeaaDoorW.PrintLast

abbrev bl (s : ByteArray) : List UInt8 := s.data.toList
abbrev ba (l : List UInt8) : ByteArray := ⟨l.toArray⟩
theorem bl_ba (l : List UInt8) : bl (ba l) = l := by simp
theorem ba_bl (s : ByteArray) : ba (bl s) = s := by
  obtain ⟨⟨l⟩⟩ := s
  rfl
theorem bl_size (s : ByteArray) : (bl s).length = s.size := by
  obtain ⟨⟨l⟩⟩ := s
  rfl
/-- Has a text no byte 10? -/
def plainB (s : ByteArray) : Bool := !(bl s).contains 10
def rightB (xs : List ByteArray) : Bool := xs.all plainB
theorem indexByte_10 (l : List UInt8) : decide (0 ≤ Lib.indexByte l 10) = l.contains 10 := by
  rw [Bool.eq_iff_iff, decide_eq_true_iff, List.contains_iff_mem]
  constructor
  · intro h
    obtain ⟨o, ho⟩ := Int.eq_ofNat_of_zero_le h
    exact List.mem_of_getElem? (Lib.indexByte_some ho).1
  · intro h
    have h1 := Lib.indexByte_ge l 10
    rcases Int.lt_or_le (Lib.indexByte l 10) 0 with h2 | h2
    · obtain ⟨k, hk⟩ := List.getElem?_of_mem h
      exact absurd hk (Lib.indexByte_none (by omega) k)
    · exact h2
theorem rdOf_nat {α : Type} (d : α) (xs : List α) (i : Nat) (h : i < xs.length) : rdOf d xs (i : Int) = xs[i] := by
  unfold rdOf
  rw [Int.toNat_natCast, List.getD_eq_getElem?_getD, List.getElem?_eq_getElem h]
  rfl
theorem right1 (s : ByteArray) (w : World) :
    Calls Tryd.prog 32 #[.string s] w fun e w' => e = .returned (.bool (!plainB s)) ∧ w' = w := by
  go_enter Tryd.func32, Tryd.ntmps32
  go_wp2_with fail
  refine (Tryd.strings_Contains_one s 10 w).mono ?_
  rintro e w' ⟨rfl, rfl⟩
  rw [show decide (0 ≤ Lib.indexByte s.data.toList 10) = !plainB s from by rw [indexByte_10]; simp [plainB]]
  go_wp2_with fail
  go_ret
  exact ⟨rfl, rfl⟩
def AnyBool (xs : List ByteArray) (i : Int) : Prop := (0 ≤ i) = (rightB xs = false)
set_option maxRecDepth 100000 in
theorem indexFunc10 (A : Option Addr) (n c : Nat) (xs : List ByteArray) (hxn : xs.length = n) (w : World) (hA : Kd.string.C w A n xs) (hn : n ≤ 1000000000) :
    Calls Tryd.prog 39 #[.slice A n c, .func (.func 32) #[] #[]] w fun e w' => ∃ i : Int, e = .returned (.int .i64 i) ∧ AnyBool xs i ∧ w' = w := by
  have HA := Lib.hid hA
  have HXN := Lib.hid hxn
  clear hA hxn
  go_enter Tryd.func39, Tryd.ntmps39
  go_wp2_with fail
  go_loopw [8] (fun vi wr => ∃ i : Nat, i ≤ n ∧ vi = .int .i64 (i : Int) ∧ (∀ j (hj : j < xs.length), j < i → plainB (xs[j]'hj) = true) ∧ wr = w) (fun vi _ => n - (intOf vi).toNat)
  case atStart => exact ⟨0, Nat.zero_le _, rfl, fun j hj h => absurd h (Nat.not_lt_zero _), rfl⟩
  case round =>
    obtain ⟨i, hi, rfl, hj, hw⟩ := hrel
    have hw2 := hw.symm
    clear hw
    subst hw2
    have HJ := Lib.hid hj
    clear hj
    by_cases hin : i < n
    · have hin1 : (i : Int) < (n : Int) := by omega
      have hi0 : (0 : Int) ≤ (i : Int) := by omega
      obtain ⟨ad, rfl, ca1⟩ := Kd.at_string HA.out (i : Int) hi0 hin1
      rw [rdOf_nat _ _ _ (by rw [HXN.out]; exact hin), Int.toNat_natCast] at ca1
      go_wp2_with fail
      refine (right1 (xs[i]'(by rw [HXN.out]; exact hin)) w).mono ?_
      obtain ⟨q, hq⟩ : ∃ q, q = plainB (xs[i]'(by rw [HXN.out]; exact hin)) := ⟨_, rfl⟩
      rw [← hq]
      have HQ := Lib.hid hq
      clear hq
      rintro e w' ⟨rfl, hw⟩
      have hw2 := hw.symm
      clear hw
      subst hw2
      cases q with
      | true =>
        go_wp2_with fail
        refine ⟨⟨i + 1, by omega, by go_num, fun j hj h => ?_, trivial⟩, by first | (simp [intOf]; done) | (simp [intOf]; omega)⟩
        by_cases hji : j = i
        · subst hji
          exact HQ.out.symm
        · exact HJ.out j hj (by omega)
      | false =>
        go_wp2_with fail
        go_ret
        refine ⟨_, rfl, ?_, rfl⟩
        unfold AnyBool
        rw [eq_iff_iff]
        refine ⟨fun _ => ?_, fun _ => hi0⟩
        unfold rightB
        rw [List.all_eq_false]
        exact ⟨_, List.getElem_mem _, by rw [← HQ.out]; simp⟩
    · have hin1 : ¬ (i : Int) < (n : Int) := by omega
      have HIN := Lib.hid (show i = n by omega)
      go_wp2_with fail
      go_ret
      refine ⟨_, rfl, ?_, rfl⟩
      unfold AnyBool
      rw [eq_iff_iff]
      refine ⟨fun h => by omega, fun h => ?_⟩
      unfold rightB at h
      rw [List.all_eq_false] at h
      obtain ⟨x, hx, hb⟩ := h
      obtain ⟨j, hj, rfl⟩ := List.getElem_of_mem hx
      exact absurd (HJ.out j hj (by have := HIN.out; have := HXN.out; omega)) hb
set_option maxRecDepth 100000 in
theorem right_any (A : Option Addr) (n c : Nat) (xs : List ByteArray) (hxn : xs.length = n) (w : World) (hA : Kd.string.C w A n xs) (hn : n ≤ 1000000000) :
    Calls Tryd.prog 19 #[.slice A n c] w fun e w' => e = .returned (.bool (rightB xs)) ∧ w' = w := by
  have HC := Lib.hid (indexFunc10 A n c xs hxn w hA hn)
  clear hA hxn
  have HCF : Calls Tryd.prog 31 #[.slice A n c, .func (.func 32) #[] #[]] w fun e w' => e = .returned (.bool (!rightB xs)) ∧ w' = w := by
    go_enter Tryd.func31, Tryd.ntmps31
    go_wp2_with fail
    refine HC.out.mono ?_
    rintro e w' ⟨i, rfl, hi, hw⟩
    have hw2 := hw.symm
    clear hw
    subst hw2
    have HI := Lib.hid hi
    clear hi
    go_wp2_with fail
    go_ret
    refine ⟨show Ending.returned (Value.bool (decide (i ≥ 0))) = _ from ?_, rfl⟩
    have h := HI.out
    unfold AnyBool at h
    rw [show decide (i ≥ 0) = !rightB xs from by
      rw [Bool.eq_iff_iff, decide_eq_true_iff]
      show (0 ≤ i) ↔ _
      rw [h]
      simp]
  have HF := Lib.hid HCF
  clear HCF
  go_enter Tryd.func19, Tryd.ntmps19
  go_wp2_with fail
  refine HF.out.mono ?_
  rintro e w' ⟨rfl, hw⟩
  have hw2 := hw.symm
  clear hw
  subst hw2
  obtain ⟨q, hq⟩ : ∃ q, q = rightB xs := ⟨_, rfl⟩
  rw [← hq]
  have HQ := Lib.hid hq
  clear hq
  go_wp2_with fail
  go_ret
  exact ⟨by rw [← HQ.out]; simp, rfl⟩
end Go.Proofs.YtmhpnidhokcaeaaDoor
