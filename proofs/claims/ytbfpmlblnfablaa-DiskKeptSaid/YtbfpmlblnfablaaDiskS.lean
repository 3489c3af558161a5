/- What calls of a disk give: plain. -/
import Derived.Test.YtbfpmlblnfablaaDiskH
import Derived.Test.YtbfpmlblnfablaaOpen
set_option linter.unusedVariables false
set_option linter.unusedSimpArgs false
namespace Go.Proofs.Ytbfpmlblnfablaa
open Go.RowKit Go.Proofs.YtbfpmlblnfablaaW.PrintWords Go.Proofs.YtbfpmlblnfablaaW.PrintLast

def goodB (l : List Int) : Prop := l.length * 1 ≤ 140737488351232 ∧ ∀ x ∈ l, (Lit.int .u8 x).wf = true
abbrev kT : Kd (List Int) := Kd.slice 5 (Kd.int .u8)
theorem opens_bytes : Opens Try.prog 22 kT goodB :=
  Opens.slice Try.underlying22 (by kernel_rfl) (B := 1) (by kernel_rfl) (Opens.int Try.underlying5)
theorem bytes_open {w : World} {l : List Int} {A : Option Addr} {n c : Nat} (h : kT.K w l [.slice A n c]) : n = l.length ∧ n ≤ c ∧ Kd.C (Kd.int .u8) w A n l := by
  obtain ⟨A', c', e, l', hr⟩ := h
  injection e with e _
  injection e with a b c
  subst a b c
  exact ⟨rfl, l', hr⟩
section
variable {d : D} {s t : ByteArray} {l : List Int}
theorem write_ok (ho : offD d = false) (h : wrE d s l.length = 0) : writeE d s l = 0 ∧ writeD d s l = { ranD d with now := put d.now s l, ch := d.ch ++ [⟨0, s, ByteArray.empty, l⟩] } := by
  unfold writeE writeD actE actD
  rw [ho, h]
  exact ⟨by simp, by simp [appl]⟩
theorem wrE_ok (hr : rightN s = true) (hl : l.length ≤ 65536) (hn : d.now.length < 512) (hf : (l.length : Int) ≤ d.room - used d.now + oldLen d s) : wrE d s l.length = 0 := by
  unfold wrE
  rw [if_pos hr, if_neg (by omega), if_neg (by omega)]
theorem rename_ok (ho : offD d = false) (hr : rightN t = true) (hs : (look d.now s).isSome = true) : renameE d s t = 0 ∧ renameD d s t = { ranD d with now := appl d.now ⟨1, s, t, []⟩, ch := d.ch ++ [⟨1, s, t, []⟩] } := by
  have h : renE d s t = 0 := by unfold renE noneE; rw [if_pos hr, if_pos hs]
  unfold renameE renameD actE actD
  rw [ho, h]
  exact ⟨by simp, by simp⟩
theorem sync_ok (ho : offD d = false) : syncE d = 0 ∧ syncD d = { ranD d with old := d.now, ch := [] } := by
  unfold syncE syncD actE
  rw [ho]
  exact ⟨by simp, by simp⟩
end
end Go.Proofs.Ytbfpmlblnfablaa
