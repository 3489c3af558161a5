/- Walks of chapter 04: Within, Apart, Moved, Parent, of the program and of the reference. -/
import Derived.Test.YtfiemgadoglhiaaDoorPathB
import Derived.Test.YtfiemgadoglhiaaDoorProg
import Derived.Test.YtfiemgadoglhiaaDoorShelf
import Derived.WalkKit
import Derived.WalkSpells
import Derived.WalkLawsBesides
import Derived.Below
import Derived.Lib.Hide
set_option linter.unusedVariables false
set_option linter.unusedSimpArgs false
namespace Go.Proofs.YtfiemgadoglhiaaDoor
open Go.RowKit

theorem within_no (p q : ByteArray) (h : Lib.hasPrefix (bl p) (bl q) = false) : withinB (bl p) (bl q) = false := by
  unfold withinB
  rw [show (bl q).isPrefixOf (bl p) = false from h]
  rfl
theorem within_yes (p q : ByteArray) (h : Lib.hasPrefix (bl p) (bl q) = true) : withinB (bl p) (bl q) = (decide ((bl p).drop (bl q).length = []) || decide (((bl p).drop (bl q).length)[0]? = some 47)) := by
  have h1 : (bl q).isPrefixOf (bl p) = true := h
  obtain ⟨t, ht⟩ := List.isPrefixOf_iff_prefix.1 h1
  rw [withinB_eq, decide_eq_true (by rw [← ht]; simp), decide_eq_true (by rw [← ht]; simp)]
  rfl

theorem beq47 (b : UInt8) : (((b.toNat : Nat) : Int) == 47) = decide (b = 47) := by
  rw [Bool.eq_iff_iff, beq_iff_eq, decide_eq_true_eq]
  constructor
  · intro h
    exact UInt8.toNat_inj.1 (by show b.toNat = 47; omega)
  · rintro rfl
    rfl
set_option maxRecDepth 100000 in
set_option maxHeartbeats 2000000 in
theorem pwithin (p q : ByteArray) (w : World) :
    Calls Tryd.prog 16 #[.string p, .string q] w fun e w' => e = .returned (.bool (withinB (bl p) (bl q))) ∧ Below w.heap.size w w' := by
  obtain ⟨r, hr⟩ : ∃ r, r = withinB (bl p) (bl q) := ⟨_, rfl⟩
  rw [← hr]
  have HR := Lib.hid hr
  clear hr
  go_enter Tryd.func16, Tryd.ntmps16
  go_wp2_with fail
  refine (Tryd.strings_CutPrefix p q w).mono ?_
  rintro e w' ⟨rfl, rfl⟩
  cases h : Lib.hasPrefix p.data.toList q.data.toList with
  | false =>
    have hr := HR.out.trans (within_no p q h)
    subst hr
    clear h HR
    go_wp2_with fail
    go_ret
    exact ⟨rfl, Below.refl _ _⟩
  | true =>
    have hr := HR.out.trans (within_yes p q h)
    have ht : Lib.trimPrefix p.data.toList q.data.toList = (bl p).drop (bl q).length := by unfold Lib.trimPrefix; rw [if_pos h]; rfl
    rw [ht]
    clear h ht HR
    obtain ⟨L, hL⟩ : ∃ L, L = (bl p).drop (bl q).length := ⟨_, rfl⟩
    rw [← hL] at hr ⊢
    clear hL
    have HR := Lib.hid hr
    clear hr
    cases L with
    | nil =>
      go_wp2_with fail
      go_ret
      exact ⟨by rw [HR.out]; simp, Below.refl _ _⟩
    | cons b L =>
      go_wp2_with fail
      all_goals go_ret
      all_goals
        refine ⟨?_, Below.refl _ _⟩
        rw [HR.out]
        simp
        exact beq47 b
theorem papart (p q : ByteArray) (w : World) :
    Calls Tryd.prog 18 #[.string p, .string q] w fun e w' => e = .returned (.bool (!withinB (bl p) (bl q) && !withinB (bl q) (bl p))) ∧ Below w.heap.size w w' := by
  obtain ⟨r, hr⟩ : ∃ r, r = withinB (bl p) (bl q) := ⟨_, rfl⟩
  obtain ⟨s, hs⟩ : ∃ s, s = withinB (bl q) (bl p) := ⟨_, rfl⟩
  have HP := Lib.hid (pwithin p q)
  have HQ := Lib.hid (pwithin q p)
  rw [← hr] at HP ⊢
  rw [← hs] at HQ ⊢
  clear hr hs
  go_enter Tryd.func18, Tryd.ntmps18
  go_wp2_with fail
  refine (HP.out w).mono ?_
  rintro e w1 ⟨rfl, hB⟩
  have HB := Lib.hid hB
  clear hB
  cases r with
  | true =>
    go_wp2_with fail
    go_ret
    exact ⟨rfl, HB.out⟩
  | false =>
    go_wp2_with fail
    refine (HQ.out w1).mono ?_
    rintro e w2 ⟨rfl, hB⟩
    have HB2 := Lib.hid (hB.mono HB.out.size)
    clear hB
    go_wp2_with fail
    go_ret
    exact ⟨by simp, HB.out.trans HB2.out⟩
/-- What Moved answers. -/
def movedV (p q to : ByteArray) : Value := if withinB (bl p) (bl q) = true then .tuple #[.string (to ++ p.extract q.size p.size), .bool true] else .tuple #[.string ⟨#[]⟩, .bool false]
theorem within_size (p q : ByteArray) (h : withinB (bl p) (bl q) = true) : q.size ≤ p.size := by
  have := (withinB_eq (bl p) (bl q)).symm.trans h
  simp only [Bool.and_eq_true, decide_eq_true_eq] at this
  exact this.1.1
theorem pmoved (p q to : ByteArray) (w : World) (h1 : p.size ≤ 140737488351232) (h2 : to.size ≤ 140737488351232) :
    Calls Tryd.prog 12 #[.string p, .string q, .string to] w fun e w' => e = .returned (movedV p q to) ∧ Below w.heap.size w w' := by
  have hsz := within_size p q
  unfold movedV
  obtain ⟨r, hr⟩ : ∃ r, r = withinB (bl p) (bl q) := ⟨_, rfl⟩
  have HP := Lib.hid (pwithin p q)
  rw [← hr] at HP hsz ⊢
  clear hr
  go_enter Tryd.func12, Tryd.ntmps12
  go_wp2_with fail
  refine (HP.out w).mono ?_
  rintro e w1 ⟨rfl, hB⟩
  have HB := Lib.hid hB
  clear hB
  cases r with
  | false =>
    go_wp2_with fail
    go_ret2
    exact ⟨rfl, HB.out⟩
  | true =>
    have hq := hsz rfl
    have hq1 : (q.size : Int) ≤ (p.size : Int) := by omega
    have hl : ¬ 9223372036854775807 < to.size + (p.extract q.size p.size).size := by rw [ByteArray.size_extract]; omega
    clear hsz
    go_wp2_with fail
    go_ret2
    exact ⟨rfl, HB.out⟩
end Go.Proofs.YtfiemgadoglhiaaDoor
