/- Chapter 01: DiskRenames, its contract. -/
import Derived.Test.YtbfpmlblnfablaaDiskS
set_option linter.unusedVariables false
set_option linter.unusedSimpArgs false
namespace Go.Proofs.Ytbfpmlblnfablaa
open Go.RowKit Go.Proofs.YtbfpmlblnfablaaW.PrintWords Go.Proofs.YtbfpmlblnfablaaW.PrintLast Go.Proofs.YtbfpmlblnfablaaW.PrintMore

abbrev s1 : ByteArray := sOf [111, 110, 101]
abbrev s2 : ByteArray := sOf [116, 119, 111]
def rn0 : D := newD 1048576
section
variable (a b c : List Int) (sy : Bool)
def rn1 : D := ⟨1048576, [(s1, a)], [], [⟨0, s1, ByteArray.empty, a⟩], 1, -1, false⟩
def rn2 : D := ⟨1048576, [(s1, a), (s2, b)], [], [⟨0, s1, ByteArray.empty, a⟩, ⟨0, s2, ByteArray.empty, b⟩], 2, -1, false⟩
def rn3 : D := ⟨1048576, [(s1, a), (s2, b)], [(s1, a), (s2, b)], [], 3, -1, false⟩
def rn4 : D := ⟨1048576, [(s1, c), (s2, b)], [(s1, a), (s2, b)], [⟨0, s1, ByteArray.empty, c⟩], 4, -1, false⟩
def rn5 : D := if sy = true then ⟨1048576, [(s1, c), (s2, b)], [(s1, c), (s2, b)], [], 5, -1, false⟩ else rn4 a b c
def rn6 : D := if sy = true then ⟨1048576, [(s2, c)], [(s1, c), (s2, b)], [⟨1, s1, s2, []⟩], 6, -1, false⟩ else ⟨1048576, [(s2, c)], [(s1, a), (s2, b)], [⟨0, s1, ByteArray.empty, c⟩, ⟨1, s1, s2, []⟩], 5, -1, false⟩
variable {a b c}
theorem rn1_is (ha : a.length ≤ 1000) : writeD rn0 s1 a = rn1 a := by
  have h := (write_ok (d := rn0) (s := s1) (l := a) (by kernel_rfl) (wrE_ok (by kernel_rfl) (by omega) (by decide) (by
    show (a.length : Int) ≤ 1048576 - ((0 : Nat) : Int) + ((0 : Nat) : Int)
    omega))).2
  exact h.trans (by kernel_rfl)
theorem rn2_is (ha : a.length ≤ 1000) (hb : b.length ≤ 1000) : writeD (rn1 a) s2 b = rn2 a b := by
  have h := (write_ok (d := rn1 a) (s := s2) (l := b) (by kernel_rfl) (wrE_ok (by kernel_rfl) (by omega) (by show 1 < 512; omega) (by
    have h1 : used (rn1 a).now = a.length + 0 := rfl
    have h2 : oldLen (rn1 a) s2 = 0 := by kernel_rfl
    rw [h1, h2]
    show (b.length : Int) ≤ 1048576 - ((a.length + 0 : Nat) : Int) + ((0 : Nat) : Int)
    omega))).2
  exact h.trans (by kernel_rfl)
theorem rn3_is : syncD (rn2 a b) = rn3 a b := by kernel_rfl
theorem rn4_is (ha : a.length ≤ 1000) (hb : b.length ≤ 1000) (hc : c.length ≤ 1000) : writeD (rn3 a b) s1 c = rn4 a b c := by
  have h := (write_ok (d := rn3 a b) (s := s1) (l := c) (by kernel_rfl) (wrE_ok (by kernel_rfl) (by omega) (by show 2 < 512; omega) (by
    have h1 : used (rn3 a b).now = a.length + (b.length + 0) := rfl
    have h2 : oldLen (rn3 a b) s1 = a.length := by kernel_rfl
    rw [h1, h2]
    show (c.length : Int) ≤ 1048576 - ((a.length + (b.length + 0) : Nat) : Int) + (a.length : Int)
    omega))).2
  exact h.trans (by kernel_rfl)
theorem rn5_is : rn5 a b c sy = if sy = true then syncD (rn4 a b c) else rn4 a b c := by cases sy <;> kernel_rfl
theorem rn6_is : renameE (rn5 a b c sy) s1 s2 = 0 ∧ renameD (rn5 a b c sy) s1 s2 = rn6 a b c sy := by cases sy <;> exact ⟨by kernel_rfl, by kernel_rfl⟩
theorem rn6_two : readE (rn6 a b c sy) s2 = 0 ∧ readB (rn6 a b c sy) s2 = c := by cases sy <;> exact ⟨by kernel_rfl, by kernel_rfl⟩
theorem rn6_one : readE (rn6 a b c sy) s1 = 12 ∧ readB (rn6 a b c sy) s1 = [] := by cases sy <;> exact ⟨by kernel_rfl, by kernel_rfl⟩
theorem rn7_two : readE (crashD (rn6 a b c sy) [sy, true]) s2 = 0 ∧ readB (crashD (rn6 a b c sy) [sy, true]) s2 = if sy = true then c else a := by cases sy <;> exact ⟨by kernel_rfl, by kernel_rfl⟩
theorem rn7_one : readE (crashD (rn6 a b c sy) [sy, true]) s1 = 12 ∧ readB (crashD (rn6 a b c sy) [sy, true]) s1 = [] := by cases sy <;> exact ⟨by kernel_rfl, by kernel_rfl⟩
theorem rn6_I (ha : a.length ≤ 1000) (hb : b.length ≤ 1000) (hc : c.length ≤ 1000) : SmallI 0 rn0 ∧ SmallI 1 (rn1 a) ∧ SmallI 2 (rn2 a b) ∧ SmallI 3 (rn3 a b) ∧ SmallI 4 (rn4 a b c) ∧ SmallI 5 (rn5 a b c sy) ∧ SmallI 6 (rn6 a b c sy) := by
  have h0 : SmallI 0 rn0 := SmallI.new 1048576 (by omega)
  have h1 := h0.write s1 a
  rw [rn1_is ha] at h1
  have h2 := h1.write s2 b
  rw [rn2_is ha hb] at h2
  have h3 := h2.sync
  rw [rn3_is] at h3
  have h4 := h3.write s1 c
  rw [rn4_is ha hb hc] at h4
  have h5 : SmallI 5 (rn5 a b c sy) := by
    rw [rn5_is]
    split
    · exact h4.sync
    · exact h4.le (by omega)
  have h6 := h5.rename s1 s2
  rw [(rn6_is sy).2] at h6
  exact ⟨h0, h1, h2, h3, h4, h5, h6⟩
end
end Go.Proofs.Ytbfpmlblnfablaa
