/- Chapter 04's statements: their contracts. -/
import Derived.Test.YtfiemgadoglhiaaDoorPathL
import Derived.Test.YtfiemgadoglhiaaDoorPathS2
set_option linter.unusedVariables false
set_option linter.unusedSimpArgs false
namespace Go.Proofs.YtfiemgadoglhiaaDoor
open Go.RowKit

theorem parentV_form (p : ByteArray) : ∃ s b, parentV p = .tuple #[.string s, .bool b] ∧ ((b = true ∧ parentOf (bl p) = some (bl s)) ∨ (b = false ∧ parentOf (bl p) = none)) := by
  unfold parentV
  cases h : parentOf (bl p) with
  | none => exact ⟨_, _, rfl, Or.inr ⟨rfl, rfl⟩⟩
  | some l => exact ⟨_, _, rfl, Or.inl ⟨rfl, rfl⟩⟩
theorem movedV_form (p q t : ByteArray) : ∃ s b, movedV p q t = .tuple #[.string s, .bool b] := by
  unfold movedV
  split
  · exact ⟨_, _, rfl⟩
  · exact ⟨_, _, rfl⟩
theorem parent_size (p s : ByteArray) (h : parentOf (bl p) = some (bl s)) : s.size ≤ p.size := by
  obtain ⟨t, e, _⟩ := parentOf_some _ _ h
  have := congrArg List.length e
  rw [List.length_append, bl_size, bl_size] at this
  omega
set_option maxRecDepth 100000 in
theorem great_any (p q : ByteArray) (w : World) : ∃ r, (r = false → p.size ≤ 3000 ∧ q.size ≤ 3000) ∧ Calls Tryd.prog 9 #[.string p, .string q] w fun e w' => e = .returned (.bool r) ∧ Below w.heap.size w w' := by
  by_cases h1 : 3000 < p.size
  · refine ⟨true, by simp, ?_⟩
    have h1' : (3000 : Int) < (p.size : Int) := by omega
    go_enter Tryd.func9, Tryd.ntmps9
    go_wp2_with fail
    go_ret
    exact ⟨rfl, Below.refl _ _⟩
  · have h1' : ¬ (3000 : Int) < (p.size : Int) := by omega
    by_cases h2 : 3000 < q.size
    · refine ⟨true, by simp, ?_⟩
      have h2' : (3000 : Int) < (q.size : Int) := by omega
      go_enter Tryd.func9, Tryd.ntmps9
      go_wp2_with fail
      go_ret
      exact ⟨by simp_all, Below.refl _ _⟩
    · refine ⟨false, fun _ => ⟨by omega, by omega⟩, ?_⟩
      have h2' : ¬ (3000 : Int) < (q.size : Int) := by omega
      go_enter Tryd.func9, Tryd.ntmps9
      go_wp2_with fail
      go_ret
      exact ⟨by simp_all, Below.refl _ _⟩

set_option maxRecDepth 100000 in
set_option maxHeartbeats 8000000 in
theorem head_any (w : World) : Calls Tryd.prog 8 #[] w fun e w' => e = .returned (.bool true) ∧ Below w.heap.size w w' := by
  have hp := pparent ⟨#[97, 47, 98, 47, 99]⟩
  have hm := pmoved ⟨#[97, 47, 98, 47, 99]⟩ ⟨#[97, 47, 98]⟩ ⟨#[120]⟩
  have h1 := pright ⟨#[97, 47, 98, 46, 99]⟩
  have h2 := pright ⟨#[97, 47, 47, 98]⟩
  have h3 := pwithin ⟨#[97, 47, 98]⟩ ⟨#[97]⟩
  have h4 := pwithin ⟨#[97, 98]⟩ ⟨#[97]⟩
  have h5 := papart ⟨#[97, 98]⟩ ⟨#[97]⟩
  rw [show parentV ⟨#[97, 47, 98, 47, 99]⟩ = .tuple #[.string ⟨#[97, 47, 98]⟩, .bool true] from rfl] at hp
  rw [show movedV ⟨#[97, 47, 98, 47, 99]⟩ ⟨#[97, 47, 98]⟩ ⟨#[120]⟩ = .tuple #[.string ⟨#[120, 47, 99]⟩, .bool true] from rfl] at hm
  rw [show right 16 8 (bl ⟨#[97, 47, 98, 46, 99]⟩) = true from by decide] at h1
  rw [show right 16 8 (bl ⟨#[97, 47, 47, 98]⟩) = false from by decide] at h2
  rw [show withinB (bl ⟨#[97, 47, 98]⟩) (bl ⟨#[97]⟩) = true from by decide] at h3
  rw [show withinB (bl ⟨#[97, 98]⟩) (bl ⟨#[97]⟩) = false from by decide] at h4
  rw [show (!withinB (bl ⟨#[97, 98]⟩) (bl ⟨#[97]⟩) && !withinB (bl ⟨#[97]⟩) (bl ⟨#[97, 98]⟩)) = true from by decide] at h5
  have Hhp := Lib.hid hp
  have Hhm := Lib.hid hm
  have Hh1 := Lib.hid h1
  have Hh2 := Lib.hid h2
  have Hh3 := Lib.hid h3
  have Hh4 := Lib.hid h4
  have Hh5 := Lib.hid h5
  clear hp hm h1 h2 h3 h4 h5
  have s1 : ((⟨#[97, 47, 98]⟩ : ByteArray).toList == [97, 47, 98]) = true := by rw [ByteArray.toList_eq]; rfl
  have s2 : ((⟨#[120, 47, 99]⟩ : ByteArray).toList == [120, 47, 99]) = true := by rw [ByteArray.toList_eq]; rfl
  go_enter Tryd.func8, Tryd.ntmps8
  go_wp2_with fail
  refine (Hhp.out w (by decide)).mono ?_
  rintro e w1 ⟨rfl, hB⟩
  have HB1 := Lib.hid hB
  clear hB
  go_wp2_with fail
  refine (Hhm.out w1 (by decide) (by decide)).mono ?_
  rintro e w2 ⟨rfl, hB⟩
  have HB2 := Lib.hid (HB1.out.trans (hB.mono HB1.out.size))
  clear hB
  go_wp2_with fail
  refine (Hh1.out w2 (by decide)).mono ?_
  rintro e w3 ⟨rfl, hB⟩
  have HB3 := Lib.hid (HB2.out.trans (hB.mono HB2.out.size))
  clear hB
  go_wp2_with fail
  refine (Hh2.out w3 (by decide)).mono ?_
  rintro e w4 ⟨rfl, hB⟩
  have HB4 := Lib.hid (HB3.out.trans (hB.mono HB3.out.size))
  clear hB
  go_wp2_with fail
  refine (Hh3.out w4).mono ?_
  rintro e w5 ⟨rfl, hB⟩
  have HB5 := Lib.hid (HB4.out.trans (hB.mono HB4.out.size))
  clear hB
  go_wp2_with fail
  refine (Hh4.out w5).mono ?_
  rintro e w6 ⟨rfl, hB⟩
  have HB6 := Lib.hid (HB5.out.trans (hB.mono HB5.out.size))
  clear hB
  go_wp2_with fail
  refine (Hh5.out w6).mono ?_
  rintro e w7 ⟨rfl, hB⟩
  have HB7 := Lib.hid (HB6.out.trans (hB.mono HB6.out.size))
  clear hB
  go_wp2_with fail
  go_ret
  exact ⟨rfl, HB7.out⟩
set_option maxRecDepth 100000 in
set_option maxHeartbeats 8000000 in
theorem tells_law (w : World) (p : ByteArray) (hp : p.size ≤ 140737488351232) (q : ByteArray) (hq : q.size ≤ 140737488351232) (t : ByteArray) (ht : t.size ≤ 140737488351232) :
    Calls Tryd.prog 3 #[.string p, .string q, .string t] w fun e w' => e = .returned (.bool true) ∧ Below w.heap.size w w' := by
  go_enter Tryd.func3, Tryd.ntmps3
  go_wp2_with fail
  refine (head_any w).mono ?_
  rintro e w1 ⟨rfl, hB⟩
  have HB1 := Lib.hid hB
  clear hB
  go_wp2_with fail
  obtain ⟨r, hr, hcall⟩ := great_any p q w1
  refine hcall.mono ?_
  clear hcall
  rintro e w2 ⟨rfl, hB⟩
  have HB2 := Lib.hid (HB1.out.trans (hB.mono HB1.out.size))
  clear hB
  cases r with
  | true =>
    clear hr
    go_wp2_with fail
    go_ret
    exact ⟨rfl, HB2.out⟩
  | false =>
    obtain ⟨bp, bq⟩ := hr rfl
    clear hr
    by_cases bt : 3000 < t.size
    · have bt' : (3000 : Int) < (t.size : Int) := by omega
      go_wp2_with fail
      go_ret
      exact ⟨rfl, HB2.out⟩
    have bt' : ¬ (3000 : Int) < (t.size : Int) := by omega
    obtain ⟨s1, b1, e1, _⟩ := parentV_form p
    obtain ⟨s2, b2, e2⟩ := movedV_form p q t
    have HP := Lib.hid (fun w => pparent p w hp)
    have HRP := Lib.hid (fun w => rparent p w hp)
    have HM := Lib.hid (fun w => pmoved p q t w hp ht)
    have HRM := Lib.hid (fun w => rmoved p q t w hp hq ht)
    have HR := Lib.hid (fun w => pright p w hp)
    have HRR := Lib.hid (fun w => rright p w hp)
    have HW := Lib.hid (fun w => pwithin p q w)
    have HRW := Lib.hid (fun w => rwithin p q w hp hq)
    have HA := Lib.hid (fun w => papart p q w)
    have HRA := Lib.hid (fun w => rapart p q w hp hq)
    rw [e1] at HP HRP
    rw [e2] at HM HRM
    clear e1 e2
    obtain ⟨c1, hc1⟩ : ∃ c, c = right 16 8 (bl p) := ⟨_, rfl⟩
    rw [← hc1] at HR HRR
    obtain ⟨c3, hc3⟩ : ∃ c, c = (!withinB (bl p) (bl q) && !withinB (bl q) (bl p)) := ⟨_, rfl⟩
    rw [← hc3] at HA HRA
    obtain ⟨c2, hc2⟩ : ∃ c, c = withinB (bl p) (bl q) := ⟨_, rfl⟩
    rw [← hc2] at HW HRW
    clear hc1 hc2 hc3
    go_wp2_with fail
    refine (HP.out w2).mono ?_
    rintro e w3 ⟨rfl, hB⟩
    have HB3 := Lib.hid (HB2.out.trans (hB.mono HB2.out.size))
    clear hB
    go_wp2_with fail
    refine (HRP.out w3).mono ?_
    rintro e w4 ⟨rfl, hB⟩
    have HB4 := Lib.hid (HB3.out.trans (hB.mono HB3.out.size))
    clear hB
    go_wp2_with fail
    refine (HM.out w4).mono ?_
    rintro e w5 ⟨rfl, hB⟩
    have HB5 := Lib.hid (HB4.out.trans (hB.mono HB4.out.size))
    clear hB
    go_wp2_with fail
    refine (HRM.out w5).mono ?_
    rintro e w6 ⟨rfl, hB⟩
    have HB6 := Lib.hid (HB5.out.trans (hB.mono HB5.out.size))
    clear hB
    go_wp2_with fail
    refine (HR.out w6).mono ?_
    rintro e w7 ⟨rfl, hB⟩
    have HB7 := Lib.hid (HB6.out.trans (hB.mono HB6.out.size))
    clear hB
    go_wp2_with fail
    refine (HRR.out w7).mono ?_
    rintro e w8 ⟨rfl, hB⟩
    have HB8 := Lib.hid (HB7.out.trans (hB.mono HB7.out.size))
    clear hB
    go_wp2_with fail
    refine (HW.out w8).mono ?_
    rintro e w9 ⟨rfl, hB⟩
    have HB9 := Lib.hid (HB8.out.trans (hB.mono HB8.out.size))
    clear hB
    go_wp2_with fail
    refine (HRW.out w9).mono ?_
    rintro e w10 ⟨rfl, hB⟩
    have HB10 := Lib.hid (HB9.out.trans (hB.mono HB9.out.size))
    clear hB
    go_wp2_with fail
    refine (HA.out w10).mono ?_
    rintro e w11 ⟨rfl, hB⟩
    have HB11 := Lib.hid (HB10.out.trans (hB.mono HB10.out.size))
    clear hB
    go_wp2_with fail
    refine (HRA.out w11).mono ?_
    rintro e w12 ⟨rfl, hB⟩
    have HB12 := Lib.hid (HB11.out.trans (hB.mono HB11.out.size))
    clear hB
    go_wp2_with fail
    go_ret
    exact ⟨by simp, HB12.out⟩
end Go.Proofs.YtfiemgadoglhiaaDoor
