/- StoreRoots. -/
import Derived.Test.YtnjdighpdcabcaaSt
import Derived.Test.YtnjdighpdcabcaaShaZ
set_option linter.unusedVariables false
set_option linter.unusedSimpArgs false
namespace Go.Proofs.Ytnjdighpdcabcaa
open Go.RowKit Go.Proofs.YtnjdighpdcabcaaW.PrintWords Go.Proofs.YtnjdighpdcabcaaW.PrintLast Go.Proofs.YtnjdighpdcabcaaW.PrintMore

theorem used_root (s : ByteArray) (t : List Int) : used (put (rootF [] s) rootN t) = t.length := by
  have : put (rootF [] s) rootN t = [(rootN, t)] := by
    simp [rootF, put, del, ins]
  rw [this]
  simp [used]
/-- What StoreRoots sees. -/
theorem roots_plain (s : ByteArray) (hs : s.size ≤ 3000) : ∃ (d0 d2 d3 : D) (e2 a2 : Int), newD 1048576 = d0 ∧ setD d0 s = d2 ∧ setE d0 s = e2 ∧ d2.acts = a2 ∧ rootE d0 = 12 ∧ writeD d2 rootN (intsOf s) = d3 ∧
    ((named s = true ∧ e2 = 0) ∨ (named s = false ∧ e2 = 1 ∧ a2 = 0)) ∧ rootE d3 = (if named s = true then 0 else 3) ∧ rootS d3 = (if named s = true then s else ⟨#[]⟩) ∧ InvD 0 d0 ∧ InvD 5 d2 ∧ InvD 6 d3 := by
  refine ⟨_, _, _, _, _, rfl, rfl, rfl, rfl, by kernel_rfl, rfl, ?_⟩
  have hi0 : InvD 0 (newD 1048576) := InvD.new _ (by omega)
  have hfin : ∀ d : D, offD d = false → wrE d rootN (intsOf s).length = 0 → rootE (writeD d rootN (intsOf s)) = (if named s = true then 0 else 3) ∧ rootS (writeD d rootN (intsOf s)) = (if named s = true then s else ⟨#[]⟩) := by
    intro d ho hw
    obtain ⟨_, e⟩ := write_ok ho hw
    have hr : readE (writeD d rootN (intsOf s)) rootN = 0 := by
      rw [e]
      unfold readE
      rw [show (look (put d.now rootN (intsOf s)) rootN) = some (intsOf s) from look_put_same _ _ _]
      rfl
    have hb : readB (writeD d rootN (intsOf s)) rootN = intsOf s := by
      rw [e]
      unfold readB
      rw [show (look (put d.now rootN (intsOf s)) rootN) = some (intsOf s) from look_put_same _ _ _]
      rfl
    have hE : rootE (writeD d rootN (intsOf s)) = (if named s = true then 0 else 3) := by
      unfold rootE
      rw [hr, hb, toS_intsOf]
      cases named s <;> rfl
    refine ⟨hE, ?_⟩
    unfold rootS
    rw [hE, hb, toS_intsOf]
    cases named s <;> rfl
  have hl : (intsOf s).length ≤ 65536 := by rw [intsOf_length]; omega
  cases hn : named s with
  | true =>
    obtain ⟨s1, s2⟩ := set_ok (d := newD 1048576) hn rfl rfl (by decide) (by decide)
    have hN : rootF [] s = [(rootN, intsOf s)] := by simp [rootF, put, del, ins]
    have hi2 : InvD 5 (setD (newD 1048576) s) := hi0.set s
    rw [s1]
    obtain ⟨d2, hd2⟩ : ∃ d, d = setD (newD 1048576) s := ⟨_, rfl⟩
    rw [← hd2] at hi2 ⊢
    have e : d2 = ⟨1048576, rootF [] s, rootF [] s, [], 0 + 1 + 1 + 1 + 1 + 1, -1, false⟩ := by rw [hd2, s2]; rfl
    obtain ⟨f1, f2⟩ := hfin d2 (by rw [e]; rfl) (wrE_ok right_root hl (by rw [e, hN]; show 1 < 512; decide) (by
      rw [e, hN]
      show ((intsOf s).length : Int) ≤ 1048576 - (used [(rootN, intsOf s)] : Int) + _
      have : used [(rootN, intsOf s)] = (intsOf s).length := by simp [used]
      rw [this, intsOf_length]
      omega))
    rw [hn] at f1 f2
    exact ⟨.inl ⟨rfl, rfl⟩, f1, f2, hi0, hi2, hi2.write _ (wf_intsOf s)⟩
  | false =>
    have s1 : setE (newD 1048576) s = 1 := by unfold setE; rw [hn, if_pos rfl]
    have s2 : setD (newD 1048576) s = newD 1048576 := by unfold setD; rw [hn, if_pos rfl]
    have hi2 : InvD 5 (newD 1048576) := hi0.le (by omega)
    rw [s1, s2]
    obtain ⟨f1, f2⟩ := hfin (newD 1048576) rfl (wrE_ok right_root hl (by decide) (by
      rw [intsOf_length]
      show (s.size : Int) ≤ 1048576 - 0 + 0
      omega))
    rw [hn] at f1 f2
    exact ⟨.inr ⟨rfl, rfl, rfl⟩, f1, f2, hi0, hi2, hi2.write _ (wf_intsOf s)⟩
set_option maxRecDepth 100000 in
set_option maxHeartbeats 4000000 in
theorem roots_law (w : World) (s : ByteArray) (gs : s.size ≤ 140737488351232) :
    Calls Try.prog 3 #[.string s] w fun e w' => e = .returned (.bool true) ∧ Below w.heap.size w w' := by
  go_enter Try.func3, Try.ntmps3
  go_wp2_with fail
  refine (head_any w).mono ?_
  rintro r w1 ⟨rfl, hB1⟩
  have HB1 := Lib.hid hB1
  clear hB1
  by_cases hs : s.size ≤ 3000
  · obtain ⟨d0, d2, d3, e2, a2, E0, E1, E2, E3, E4, E5, hcs, E6, E7, I0, I2, I3⟩ := roots_plain s hs
    have hsI : ¬ (3000 : Int) < (s.size : Int) := by omega
    have HE := Lib.hid (And.intro E0 (And.intro E1 (And.intro E2 (And.intro E3 (And.intro E4 E5)))))
    have HF := Lib.hid (And.intro E6 E7)
    have HI := Lib.hid (And.intro I0 (And.intro I2 I3))
    clear E0 E1 E2 E3 E4 E5 E6 E7 I0 I2 I3
    have hnd : ∀ W, Calls Try.prog 10 #[.string s] W fun e w' => e = .returned (.bool (named s)) ∧ Below W.heap.size W w' := fun W => named_ref s (by omega) W
    have HND := Lib.hid hnd
    clear hnd
    obtain ⟨q, hq⟩ : ∃ q, q = named s := ⟨_, rfl⟩
    rw [← hq] at HF HND hcs
    have HQ := Lib.hid hq
    obtain ⟨rs, hrs⟩ : ∃ x, x = rootS d0 := ⟨_, rfl⟩
    have HRS := Lib.hid hrs
    have HCS := Lib.hid hcs
    clear hq hrs hcs
    go_wp2_with fail
    refine (new_F 1048576 w w1 HB1.out (fun _ => False) (fun _ h => h.elim)).mono ?_
    rw [HE.out.1]
    rintro r w2 ⟨g, rfl, hD2, _⟩
    have HD2 := Lib.hid hD2
    clear hD2 HB1
    go_wp2_with fail
    have hrt := root_F HD2.out (HI.out.1.small (by omega)) HI.out.1.wf
    rw [HE.out.2.2.2.2.1, ← HRS.out] at hrt
    refine hrt.mono ?_
    clear hrt
    rintro r w3 ⟨rfl, hB3⟩
    have HD3 := Lib.hid (HD2.out.below hB3)
    clear hB3 HD2
    go_wp2_with fail
    have hst := set_F HD3.out 0 HI.out.1 (by omega) s
    rw [HE.out.2.1, HE.out.2.2.1] at hst
    refine hst.mono ?_
    clear hst
    rintro r w4 ⟨rfl, hD4, _⟩
    have HD4 := Lib.hid hD4
    clear hD4 HD3
    have hcs := HCS.out
    clear HCS
    rcases hcs with ⟨rfl, rfl⟩ | ⟨rfl, rfl, rfl⟩
    · have hE6 : rootE d3 = 0 := HF.out.1
      have hE7 : rootS d3 = s := HF.out.2
      have HEF := Lib.hid (And.intro hE6 hE7)
      have heq : (s.toList == s.toList) = true := beq_self_eq_true _
      clear hE6 hE7
      go_wp2_with fail
      refine (HND.out w4).mono ?_
      rintro r w5 ⟨rfl, hB5⟩
      have HD5 := Lib.hid (HD4.out.below hB5)
      clear hB5 HD4
      obtain ⟨c, W, hrun, hc, hC, hB⟩ := bytes_laid w5 s gs
      have HC := Lib.hid (And.intro hc hC)
      have HD6 := Lib.hid (HD5.out.below hB)
      clear hc hC hB HD5
      go_wp2_with fail
      obtain ⟨we, hwe⟩ : ∃ x, x = writeE d2 rootN (intsOf s) := ⟨_, rfl⟩
      have hw := write_F HD6.out (HI.out.2.1.small (by omega)) rootN (by decide) _ s.size c (intsOf s) (intsOf_length s) HC.out.2 HC.out.1 gs
      rw [HE.out.2.2.2.2.2, ← hwe] at hw
      refine hw.mono ?_
      clear hw hwe
      rintro r w7 ⟨rfl, hD7, _⟩
      have HD7 := Lib.hid hD7
      clear hD7 HD6
      go_wp2_with fail
      have hrt := root_F HD7.out (HI.out.2.2.small (by omega)) HI.out.2.2.wf
      rw [HEF.out.1, HEF.out.2] at hrt
      refine hrt.mono ?_
      clear hrt
      rintro r w8 ⟨rfl, hB8⟩
      have HD8 := Lib.hid (HD7.out.below hB8)
      clear hB8 HD7
      go_wp2_with fail
      refine (HND.out w8).mono ?_
      rintro r w9 ⟨rfl, hB9⟩
      have HD9 := Lib.hid (HD8.out.below hB9)
      clear hB9 HD8
      go_wp2_with fail
      go_ret
      exact ⟨rfl, HD9.out.hB⟩
    · have hE6 : rootE d3 = 3 := HF.out.1
      have hE7 : rootS d3 = ⟨#[]⟩ := HF.out.2
      have HEF := Lib.hid (And.intro hE6 hE7)
      clear hE6 hE7
      go_wp2_with fail
      refine (HND.out w4).mono ?_
      rintro r w5 ⟨rfl, hB5⟩
      have HD5 := Lib.hid (HD4.out.below hB5)
      have hac := acts_F HD5.out
      rw [HE.out.2.2.2.1] at hac
      have HAC := Lib.hid hac
      clear hB5 HD4 hac
      go_wp2_with fail
      refine HAC.out.mono ?_
      rintro r w6 ⟨rfl, e6⟩
      rw [e6]
      clear e6 w6
      obtain ⟨c, W, hrun, hc, hC, hB⟩ := bytes_laid w5 s gs
      have HC := Lib.hid (And.intro hc hC)
      have HD6 := Lib.hid (HD5.out.below hB)
      clear hc hC hB HD5
      go_wp2_with fail
      obtain ⟨we, hwe⟩ : ∃ x, x = writeE d2 rootN (intsOf s) := ⟨_, rfl⟩
      have hw := write_F HD6.out (HI.out.2.1.small (by omega)) rootN (by decide) _ s.size c (intsOf s) (intsOf_length s) HC.out.2 HC.out.1 gs
      rw [HE.out.2.2.2.2.2, ← hwe] at hw
      refine hw.mono ?_
      clear hw hwe
      rintro r w7 ⟨rfl, hD7, _⟩
      have HD7 := Lib.hid hD7
      clear hD7 HD6
      go_wp2_with fail
      have hrt := root_F HD7.out (HI.out.2.2.small (by omega)) HI.out.2.2.wf
      rw [HEF.out.1, HEF.out.2] at hrt
      refine hrt.mono ?_
      clear hrt
      rintro r w8 ⟨rfl, hB8⟩
      have HD8 := Lib.hid (HD7.out.below hB8)
      clear hB8 HD7
      go_wp2_with fail
      refine (HND.out w8).mono ?_
      rintro r w9 ⟨rfl, hB9⟩
      have HD9 := Lib.hid (HD8.out.below hB9)
      clear hB9 HD8
      go_wp2_with fail
      go_ret
      exact ⟨rfl, HD9.out.hB⟩
  · have hsI : (3000 : Int) < (s.size : Int) := by omega
    go_wp2_with fail
    go_ret
    exact ⟨rfl, HB1.out⟩
end Go.Proofs.Ytnjdighpdcabcaa
