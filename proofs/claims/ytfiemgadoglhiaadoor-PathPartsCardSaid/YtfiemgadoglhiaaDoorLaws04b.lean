/- Chapter 04's statements PathWithin, PathMoved, PathChain: their contracts. -/
import Derived.Test.YtfiemgadoglhiaaDoorLaws04
set_option linter.unusedVariables false
set_option linter.unusedSimpArgs false
namespace Go.Proofs.YtfiemgadoglhiaaDoor
open Go.RowKit

theorem wB_trans {p q s : ByteArray} (h : withinB (bl p) (bl q) = true) (k : withinB (bl q) (bl s) = true) : withinB (bl p) (bl s) = true := (withinB_iff _ _).2 (within_trans ((withinB_iff _ _).1 h) ((withinB_iff _ _).1 k))
theorem wB_anti {p q : ByteArray} (h : withinB (bl p) (bl q) = true) (k : withinB (bl q) (bl p) = true) : p = q := bl_inj.1 (within_anti ((withinB_iff _ _).1 h) ((withinB_iff _ _).1 k))

set_option maxRecDepth 100000 in
set_option maxHeartbeats 8000000 in
theorem within_law (w : World) (p : ByteArray) (hp : p.size ≤ 140737488351232) (q : ByteArray) (hq : q.size ≤ 140737488351232) (s : ByteArray) (hs : s.size ≤ 140737488351232) :
    Calls Tryd.prog 4 #[.string p, .string q, .string s] w fun e w' => e = .returned (.bool true) ∧ Below w.heap.size w w' := by
  go_enter Tryd.func4, Tryd.ntmps4
  go_wp2_with fail
  refine (head_any w).mono ?_
  rintro e w1 ⟨rfl, hB⟩
  have HB1 := Lib.hid hB
  clear hB
  go_wp2_with fail
  obtain ⟨r, hr, hcall⟩ := great_any p q w1
  refine hcall.mono ?_
  clear hcall
  rintro e w2 ⟨rfl, hB⟩
  have HB2 := Lib.hid (HB1.out.trans (hB.mono HB1.out.size))
  clear hB
  cases r with
  | true =>
    clear hr
    go_wp2_with fail
    go_ret
    exact ⟨rfl, HB2.out⟩
  | false =>
    obtain ⟨bp, bq⟩ := hr rfl
    clear hr
    by_cases bs : 3000 < s.size
    · have bs' : (3000 : Int) < (s.size : Int) := by omega
      go_wp2_with fail
      go_ret
      exact ⟨rfl, HB2.out⟩
    have bs' : ¬ (3000 : Int) < (s.size : Int) := by omega
    have ht1 := @wB_trans p q s
    have ht2 := @wB_anti p q
    obtain ⟨a, is, e1, hpa⟩ := parentV_form p
    have hra : right 16 8 (bl p) = true → is = true → right 16 8 (bl a) = true ∧ withinB (bl p) (bl a) = true ∧ withinB (bl a) (bl p) = false ∧ a.size ≤ 140737488351232 := by
      intro h1 h2
      rcases hpa with ⟨_, hp1⟩ | ⟨h3, _⟩
      · obtain ⟨t, e, ht⟩ := parentOf_some _ _ hp1
        refine ⟨right_parent 16 8 _ _ h1 hp1, (withinB_iff _ _).2 (by rw [e]; exact within_behind _ _), ?_, by have := parent_size p a hp1; omega⟩
        rw [Bool.eq_false_iff]
        intro hw
        have := (withinB_iff _ _).1 hw
        rw [e] at this
        exact not_within_short _ _ this
      · rw [h2] at h3
        cases h3
    have HP := Lib.hid (fun w => pparent p w hp)
    have HR := Lib.hid (fun w => pright p w hp)
    have Hpq := Lib.hid (fun w => pwithin p q w)
    have Hqs := Lib.hid (fun w => pwithin q s w)
    have Hps := Lib.hid (fun w => pwithin p s w)
    have Hqp := Lib.hid (fun w => pwithin q p w)
    have Hpp := Lib.hid (fun w => pwithin p p w)
    have Hapq := Lib.hid (fun w => papart p q w)
    have Haqp := Lib.hid (fun w => papart q p w)
    have Happ := Lib.hid (fun w => papart p p w)
    have Hpa := Lib.hid (fun w => pwithin p a w)
    have Hap := Lib.hid (fun w => pwithin a p w)
    rw [e1] at HP
    rw [within_self p] at Hpp Happ
    obtain ⟨A, hA⟩ : ∃ c, c = withinB (bl p) (bl q) := ⟨_, rfl⟩
    obtain ⟨C, hC⟩ : ∃ c, c = withinB (bl p) (bl s) := ⟨_, rfl⟩
    obtain ⟨Bq, hBq⟩ : ∃ c, c = withinB (bl q) (bl s) := ⟨_, rfl⟩
    obtain ⟨D, hD⟩ : ∃ c, c = withinB (bl q) (bl p) := ⟨_, rfl⟩
    obtain ⟨c1, hc1⟩ : ∃ c, c = right 16 8 (bl p) := ⟨_, rfl⟩
    rw [← hA, ← hBq, ← hC] at ht1
    rw [← hA, ← hD] at ht2
    rw [← hA] at Hpq
    rw [← hBq] at Hqs
    rw [← hC] at Hps
    rw [← hD] at Hqp
    rw [← hA, ← hD] at Hapq
    rw [← hD, ← hA] at Haqp
    rw [← hc1] at HR hra
    have HT1 := Lib.hid ht1
    have HT2 := Lib.hid ht2
    have HRA := Lib.hid hra
    clear e1 hpa hra ht1 ht2 hA hC hBq hD hc1
    go_wp2_with fail
    refine (Hpq.out w2).mono ?_
    rintro e w3 ⟨rfl, hB⟩
    have HB3 := Lib.hid (HB2.out.trans (hB.mono HB2.out.size))
    clear hB
    cases A with
    | false =>
      go_wp2_with fail
      refine (Hpq.out w3).mono ?_
      rintro e w4 ⟨rfl, hB⟩
      have HB4 := Lib.hid (HB3.out.trans (hB.mono HB3.out.size))
      clear hB
      go_wp2_with fail
      refine (HP.out w4).mono ?_
      rintro e w5 ⟨rfl, hB⟩
      have HB5 := Lib.hid (HB4.out.trans (hB.mono HB4.out.size))
      clear hB
      go_wp2_with fail
      refine (HR.out w5).mono ?_
      rintro e w6 ⟨rfl, hB⟩
      have HB6 := Lib.hid (HB5.out.trans (hB.mono HB5.out.size))
      clear hB
      cases c1 with
      | false =>
        go_wp2_with fail
        refine (Hpp.out w6).mono ?_
        rintro e w7 ⟨rfl, hB⟩
        have HB7 := Lib.hid (HB6.out.trans (hB.mono HB6.out.size))
        clear hB
        go_wp2_with fail
        refine (Hapq.out w7).mono ?_
        rintro e w8 ⟨rfl, hB⟩
        have HB8 := Lib.hid (HB7.out.trans (hB.mono HB7.out.size))
        clear hB
        go_wp2_with fail
        refine (Haqp.out w8).mono ?_
        rintro e w9 ⟨rfl, hB⟩
        have HB9 := Lib.hid (HB8.out.trans (hB.mono HB8.out.size))
        clear hB
        go_wp2_with fail
        refine (Happ.out w9).mono ?_
        rintro e w10 ⟨rfl, hB⟩
        have HB10 := Lib.hid (HB9.out.trans (hB.mono HB9.out.size))
        clear hB
        go_wp2_with fail
        go_ret
        exact ⟨by simp, HB10.out⟩
      | true =>
        cases is with
        | false =>
          go_wp2_with fail
          refine (Hpp.out w6).mono ?_
          rintro e w7 ⟨rfl, hB⟩
          have HB7 := Lib.hid (HB6.out.trans (hB.mono HB6.out.size))
          clear hB
          go_wp2_with fail
          refine (Hapq.out w7).mono ?_
          rintro e w8 ⟨rfl, hB⟩
          have HB8 := Lib.hid (HB7.out.trans (hB.mono HB7.out.size))
          clear hB
          go_wp2_with fail
          refine (Haqp.out w8).mono ?_
          rintro e w9 ⟨rfl, hB⟩
          have HB9 := Lib.hid (HB8.out.trans (hB.mono HB8.out.size))
          clear hB
          go_wp2_with fail
          refine (Happ.out w9).mono ?_
          rintro e w10 ⟨rfl, hB⟩
          have HB10 := Lib.hid (HB9.out.trans (hB.mono HB9.out.size))
          clear hB
          go_wp2_with fail
          go_ret
          exact ⟨by simp, HB10.out⟩
        | true =>
          obtain ⟨r1, r2, r3, r4⟩ := HRA.out (by trivial) (by trivial)
          have HRa := Lib.hid (fun w => pright a w r4)
          rw [r1] at HRa
          rw [r2] at Hpa
          rw [r3] at Hap
          clear r1 r2 r3 r4
          go_wp2_with fail
          refine (HRa.out w6).mono ?_
          rintro e w7 ⟨rfl, hB⟩
          have HB7 := Lib.hid (HB6.out.trans (hB.mono HB6.out.size))
          clear hB
          go_wp2_with fail
          refine (Hpa.out w7).mono ?_
          rintro e w8 ⟨rfl, hB⟩
          have HB8 := Lib.hid (HB7.out.trans (hB.mono HB7.out.size))
          clear hB
          go_wp2_with fail
          refine (Hap.out w8).mono ?_
          rintro e w9 ⟨rfl, hB⟩
          have HB9 := Lib.hid (HB8.out.trans (hB.mono HB8.out.size))
          clear hB
          go_wp2_with fail
          refine (Hpp.out w9).mono ?_
          rintro e w10 ⟨rfl, hB⟩
          have HB10 := Lib.hid (HB9.out.trans (hB.mono HB9.out.size))
          clear hB
          go_wp2_with fail
          refine (Hapq.out w10).mono ?_
          rintro e w11 ⟨rfl, hB⟩
          have HB11 := Lib.hid (HB10.out.trans (hB.mono HB10.out.size))
          clear hB
          go_wp2_with fail
          refine (Haqp.out w11).mono ?_
          rintro e w12 ⟨rfl, hB⟩
          have HB12 := Lib.hid (HB11.out.trans (hB.mono HB11.out.size))
          clear hB
          go_wp2_with fail
          refine (Happ.out w12).mono ?_
          rintro e w13 ⟨rfl, hB⟩
          have HB13 := Lib.hid (HB12.out.trans (hB.mono HB12.out.size))
          clear hB
          go_wp2_with fail
          go_ret
          exact ⟨by simp, HB13.out⟩
    | true =>
      go_wp2_with fail
      refine (Hqs.out w3).mono ?_
      rintro e w4 ⟨rfl, hB⟩
      have HB4 := Lib.hid (HB3.out.trans (hB.mono HB3.out.size))
      clear hB
      cases Bq with
      | false =>
        go_wp2_with fail
        refine (Hpq.out w4).mono ?_
        rintro e w5 ⟨rfl, hB⟩
        have HB5 := Lib.hid (HB4.out.trans (hB.mono HB4.out.size))
        clear hB
        go_wp2_with fail
        refine (Hqp.out w5).mono ?_
        rintro e w6 ⟨rfl, hB⟩
        have HB6 := Lib.hid (HB5.out.trans (hB.mono HB5.out.size))
        clear hB
        cases D with
        | false =>
          go_wp2_with fail
          refine (HP.out w6).mono ?_
          rintro e w7 ⟨rfl, hB⟩
          have HB7 := Lib.hid (HB6.out.trans (hB.mono HB6.out.size))
          clear hB
          go_wp2_with fail
          refine (HR.out w7).mono ?_
          rintro e w8 ⟨rfl, hB⟩
          have HB8 := Lib.hid (HB7.out.trans (hB.mono HB7.out.size))
          clear hB
          cases c1 with
          | false =>
            go_wp2_with fail
            refine (Hpp.out w8).mono ?_
            rintro e w9 ⟨rfl, hB⟩
            have HB9 := Lib.hid (HB8.out.trans (hB.mono HB8.out.size))
            clear hB
            go_wp2_with fail
            refine (Hapq.out w9).mono ?_
            rintro e w10 ⟨rfl, hB⟩
            have HB10 := Lib.hid (HB9.out.trans (hB.mono HB9.out.size))
            clear hB
            go_wp2_with fail
            refine (Haqp.out w10).mono ?_
            rintro e w11 ⟨rfl, hB⟩
            have HB11 := Lib.hid (HB10.out.trans (hB.mono HB10.out.size))
            clear hB
            go_wp2_with fail
            refine (Happ.out w11).mono ?_
            rintro e w12 ⟨rfl, hB⟩
            have HB12 := Lib.hid (HB11.out.trans (hB.mono HB11.out.size))
            clear hB
            go_wp2_with fail
            go_ret
            exact ⟨by simp, HB12.out⟩
          | true =>
            cases is with
            | false =>
              go_wp2_with fail
              refine (Hpp.out w8).mono ?_
              rintro e w9 ⟨rfl, hB⟩
              have HB9 := Lib.hid (HB8.out.trans (hB.mono HB8.out.size))
              clear hB
              go_wp2_with fail
              refine (Hapq.out w9).mono ?_
              rintro e w10 ⟨rfl, hB⟩
              have HB10 := Lib.hid (HB9.out.trans (hB.mono HB9.out.size))
              clear hB
              go_wp2_with fail
              refine (Haqp.out w10).mono ?_
              rintro e w11 ⟨rfl, hB⟩
              have HB11 := Lib.hid (HB10.out.trans (hB.mono HB10.out.size))
              clear hB
              go_wp2_with fail
              refine (Happ.out w11).mono ?_
              rintro e w12 ⟨rfl, hB⟩
              have HB12 := Lib.hid (HB11.out.trans (hB.mono HB11.out.size))
              clear hB
              go_wp2_with fail
              go_ret
              exact ⟨by simp, HB12.out⟩
            | true =>
              obtain ⟨r1, r2, r3, r4⟩ := HRA.out (by trivial) (by trivial)
              have HRa := Lib.hid (fun w => pright a w r4)
              rw [r1] at HRa
              rw [r2] at Hpa
              rw [r3] at Hap
              clear r1 r2 r3 r4
              go_wp2_with fail
              refine (HRa.out w8).mono ?_
              rintro e w9 ⟨rfl, hB⟩
              have HB9 := Lib.hid (HB8.out.trans (hB.mono HB8.out.size))
              clear hB
              go_wp2_with fail
              refine (Hpa.out w9).mono ?_
              rintro e w10 ⟨rfl, hB⟩
              have HB10 := Lib.hid (HB9.out.trans (hB.mono HB9.out.size))
              clear hB
              go_wp2_with fail
              refine (Hap.out w10).mono ?_
              rintro e w11 ⟨rfl, hB⟩
              have HB11 := Lib.hid (HB10.out.trans (hB.mono HB10.out.size))
              clear hB
              go_wp2_with fail
              refine (Hpp.out w11).mono ?_
              rintro e w12 ⟨rfl, hB⟩
              have HB12 := Lib.hid (HB11.out.trans (hB.mono HB11.out.size))
              clear hB
              go_wp2_with fail
              refine (Hapq.out w12).mono ?_
              rintro e w13 ⟨rfl, hB⟩
              have HB13 := Lib.hid (HB12.out.trans (hB.mono HB12.out.size))
              clear hB
              go_wp2_with fail
              refine (Haqp.out w13).mono ?_
              rintro e w14 ⟨rfl, hB⟩
              have HB14 := Lib.hid (HB13.out.trans (hB.mono HB13.out.size))
              clear hB
              go_wp2_with fail
              refine (Happ.out w14).mono ?_
              rintro e w15 ⟨rfl, hB⟩
              have HB15 := Lib.hid (HB14.out.trans (hB.mono HB14.out.size))
              clear hB
              go_wp2_with fail
              go_ret
              exact ⟨by simp, HB15.out⟩
        | true =>
          obtain rfl := HT2.out (by trivial) (by trivial)
          go_wp2_with fail
          refine (HP.out w6).mono ?_
          rintro e w7 ⟨rfl, hB⟩
          have HB7 := Lib.hid (HB6.out.trans (hB.mono HB6.out.size))
          clear hB
          go_wp2_with fail
          refine (HR.out w7).mono ?_
          rintro e w8 ⟨rfl, hB⟩
          have HB8 := Lib.hid (HB7.out.trans (hB.mono HB7.out.size))
          clear hB
          cases c1 with
          | false =>
            go_wp2_with fail
            refine (Hpp.out w8).mono ?_
            rintro e w9 ⟨rfl, hB⟩
            have HB9 := Lib.hid (HB8.out.trans (hB.mono HB8.out.size))
            clear hB
            go_wp2_with fail
            refine (Hapq.out w9).mono ?_
            rintro e w10 ⟨rfl, hB⟩
            have HB10 := Lib.hid (HB9.out.trans (hB.mono HB9.out.size))
            clear hB
            go_wp2_with fail
            refine (Haqp.out w10).mono ?_
            rintro e w11 ⟨rfl, hB⟩
            have HB11 := Lib.hid (HB10.out.trans (hB.mono HB10.out.size))
            clear hB
            go_wp2_with fail
            refine (Happ.out w11).mono ?_
            rintro e w12 ⟨rfl, hB⟩
            have HB12 := Lib.hid (HB11.out.trans (hB.mono HB11.out.size))
            clear hB
            go_wp2_with fail
            go_ret
            exact ⟨by simp, HB12.out⟩
          | true =>
            cases is with
            | false =>
              go_wp2_with fail
              refine (Hpp.out w8).mono ?_
              rintro e w9 ⟨rfl, hB⟩
              have HB9 := Lib.hid (HB8.out.trans (hB.mono HB8.out.size))
              clear hB
              go_wp2_with fail
              refine (Hapq.out w9).mono ?_
              rintro e w10 ⟨rfl, hB⟩
              have HB10 := Lib.hid (HB9.out.trans (hB.mono HB9.out.size))
              clear hB
              go_wp2_with fail
              refine (Haqp.out w10).mono ?_
              rintro e w11 ⟨rfl, hB⟩
              have HB11 := Lib.hid (HB10.out.trans (hB.mono HB10.out.size))
              clear hB
              go_wp2_with fail
              refine (Happ.out w11).mono ?_
              rintro e w12 ⟨rfl, hB⟩
              have HB12 := Lib.hid (HB11.out.trans (hB.mono HB11.out.size))
              clear hB
              go_wp2_with fail
              go_ret
              exact ⟨by simp, HB12.out⟩
            | true =>
              obtain ⟨r1, r2, r3, r4⟩ := HRA.out (by trivial) (by trivial)
              have HRa := Lib.hid (fun w => pright a w r4)
              rw [r1] at HRa
              rw [r2] at Hpa
              rw [r3] at Hap
              clear r1 r2 r3 r4
              go_wp2_with fail
              refine (HRa.out w8).mono ?_
              rintro e w9 ⟨rfl, hB⟩
              have HB9 := Lib.hid (HB8.out.trans (hB.mono HB8.out.size))
              clear hB
              go_wp2_with fail
              refine (Hpa.out w9).mono ?_
              rintro e w10 ⟨rfl, hB⟩
              have HB10 := Lib.hid (HB9.out.trans (hB.mono HB9.out.size))
              clear hB
              go_wp2_with fail
              refine (Hap.out w10).mono ?_
              rintro e w11 ⟨rfl, hB⟩
              have HB11 := Lib.hid (HB10.out.trans (hB.mono HB10.out.size))
              clear hB
              go_wp2_with fail
              refine (Hpp.out w11).mono ?_
              rintro e w12 ⟨rfl, hB⟩
              have HB12 := Lib.hid (HB11.out.trans (hB.mono HB11.out.size))
              clear hB
              go_wp2_with fail
              refine (Hapq.out w12).mono ?_
              rintro e w13 ⟨rfl, hB⟩
              have HB13 := Lib.hid (HB12.out.trans (hB.mono HB12.out.size))
              clear hB
              go_wp2_with fail
              refine (Haqp.out w13).mono ?_
              rintro e w14 ⟨rfl, hB⟩
              have HB14 := Lib.hid (HB13.out.trans (hB.mono HB13.out.size))
              clear hB
              go_wp2_with fail
              refine (Happ.out w14).mono ?_
              rintro e w15 ⟨rfl, hB⟩
              have HB15 := Lib.hid (HB14.out.trans (hB.mono HB14.out.size))
              clear hB
              go_wp2_with fail
              go_ret
              exact ⟨by simp, HB15.out⟩
      | true =>
        have hC := HT1.out (by trivial) (by trivial)
        subst hC
        go_wp2_with fail
        refine (Hps.out w4).mono ?_
        rintro e w5 ⟨rfl, hB⟩
        have HB5 := Lib.hid (HB4.out.trans (hB.mono HB4.out.size))
        clear hB
        go_wp2_with fail
        refine (Hpq.out w5).mono ?_
        rintro e w6 ⟨rfl, hB⟩
        have HB6 := Lib.hid (HB5.out.trans (hB.mono HB5.out.size))
        clear hB
        go_wp2_with fail
        refine (Hqp.out w6).mono ?_
        rintro e w7 ⟨rfl, hB⟩
        have HB7 := Lib.hid (HB6.out.trans (hB.mono HB6.out.size))
        clear hB
        cases D with
        | false =>
          go_wp2_with fail
          refine (HP.out w7).mono ?_
          rintro e w8 ⟨rfl, hB⟩
          have HB8 := Lib.hid (HB7.out.trans (hB.mono HB7.out.size))
          clear hB
          go_wp2_with fail
          refine (HR.out w8).mono ?_
          rintro e w9 ⟨rfl, hB⟩
          have HB9 := Lib.hid (HB8.out.trans (hB.mono HB8.out.size))
          clear hB
          cases c1 with
          | false =>
            go_wp2_with fail
            refine (Hpp.out w9).mono ?_
            rintro e w10 ⟨rfl, hB⟩
            have HB10 := Lib.hid (HB9.out.trans (hB.mono HB9.out.size))
            clear hB
            go_wp2_with fail
            refine (Hapq.out w10).mono ?_
            rintro e w11 ⟨rfl, hB⟩
            have HB11 := Lib.hid (HB10.out.trans (hB.mono HB10.out.size))
            clear hB
            go_wp2_with fail
            refine (Haqp.out w11).mono ?_
            rintro e w12 ⟨rfl, hB⟩
            have HB12 := Lib.hid (HB11.out.trans (hB.mono HB11.out.size))
            clear hB
            go_wp2_with fail
            refine (Happ.out w12).mono ?_
            rintro e w13 ⟨rfl, hB⟩
            have HB13 := Lib.hid (HB12.out.trans (hB.mono HB12.out.size))
            clear hB
            go_wp2_with fail
            go_ret
            exact ⟨by simp, HB13.out⟩
          | true =>
            cases is with
            | false =>
              go_wp2_with fail
              refine (Hpp.out w9).mono ?_
              rintro e w10 ⟨rfl, hB⟩
              have HB10 := Lib.hid (HB9.out.trans (hB.mono HB9.out.size))
              clear hB
              go_wp2_with fail
              refine (Hapq.out w10).mono ?_
              rintro e w11 ⟨rfl, hB⟩
              have HB11 := Lib.hid (HB10.out.trans (hB.mono HB10.out.size))
              clear hB
              go_wp2_with fail
              refine (Haqp.out w11).mono ?_
              rintro e w12 ⟨rfl, hB⟩
              have HB12 := Lib.hid (HB11.out.trans (hB.mono HB11.out.size))
              clear hB
              go_wp2_with fail
              refine (Happ.out w12).mono ?_
              rintro e w13 ⟨rfl, hB⟩
              have HB13 := Lib.hid (HB12.out.trans (hB.mono HB12.out.size))
              clear hB
              go_wp2_with fail
              go_ret
              exact ⟨by simp, HB13.out⟩
            | true =>
              obtain ⟨r1, r2, r3, r4⟩ := HRA.out (by trivial) (by trivial)
              have HRa := Lib.hid (fun w => pright a w r4)
              rw [r1] at HRa
              rw [r2] at Hpa
              rw [r3] at Hap
              clear r1 r2 r3 r4
              go_wp2_with fail
              refine (HRa.out w9).mono ?_
              rintro e w10 ⟨rfl, hB⟩
              have HB10 := Lib.hid (HB9.out.trans (hB.mono HB9.out.size))
              clear hB
              go_wp2_with fail
              refine (Hpa.out w10).mono ?_
              rintro e w11 ⟨rfl, hB⟩
              have HB11 := Lib.hid (HB10.out.trans (hB.mono HB10.out.size))
              clear hB
              go_wp2_with fail
              refine (Hap.out w11).mono ?_
              rintro e w12 ⟨rfl, hB⟩
              have HB12 := Lib.hid (HB11.out.trans (hB.mono HB11.out.size))
              clear hB
              go_wp2_with fail
              refine (Hpp.out w12).mono ?_
              rintro e w13 ⟨rfl, hB⟩
              have HB13 := Lib.hid (HB12.out.trans (hB.mono HB12.out.size))
              clear hB
              go_wp2_with fail
              refine (Hapq.out w13).mono ?_
              rintro e w14 ⟨rfl, hB⟩
              have HB14 := Lib.hid (HB13.out.trans (hB.mono HB13.out.size))
              clear hB
              go_wp2_with fail
              refine (Haqp.out w14).mono ?_
              rintro e w15 ⟨rfl, hB⟩
              have HB15 := Lib.hid (HB14.out.trans (hB.mono HB14.out.size))
              clear hB
              go_wp2_with fail
              refine (Happ.out w15).mono ?_
              rintro e w16 ⟨rfl, hB⟩
              have HB16 := Lib.hid (HB15.out.trans (hB.mono HB15.out.size))
              clear hB
              go_wp2_with fail
              go_ret
              exact ⟨by simp, HB16.out⟩
        | true =>
          obtain rfl := HT2.out (by trivial) (by trivial)
          go_wp2_with fail
          refine (HP.out w7).mono ?_
          rintro e w8 ⟨rfl, hB⟩
          have HB8 := Lib.hid (HB7.out.trans (hB.mono HB7.out.size))
          clear hB
          go_wp2_with fail
          refine (HR.out w8).mono ?_
          rintro e w9 ⟨rfl, hB⟩
          have HB9 := Lib.hid (HB8.out.trans (hB.mono HB8.out.size))
          clear hB
          cases c1 with
          | false =>
            go_wp2_with fail
            refine (Hpp.out w9).mono ?_
            rintro e w10 ⟨rfl, hB⟩
            have HB10 := Lib.hid (HB9.out.trans (hB.mono HB9.out.size))
            clear hB
            go_wp2_with fail
            refine (Hapq.out w10).mono ?_
            rintro e w11 ⟨rfl, hB⟩
            have HB11 := Lib.hid (HB10.out.trans (hB.mono HB10.out.size))
            clear hB
            go_wp2_with fail
            refine (Haqp.out w11).mono ?_
            rintro e w12 ⟨rfl, hB⟩
            have HB12 := Lib.hid (HB11.out.trans (hB.mono HB11.out.size))
            clear hB
            go_wp2_with fail
            refine (Happ.out w12).mono ?_
            rintro e w13 ⟨rfl, hB⟩
            have HB13 := Lib.hid (HB12.out.trans (hB.mono HB12.out.size))
            clear hB
            go_wp2_with fail
            go_ret
            exact ⟨by simp, HB13.out⟩
          | true =>
            cases is with
            | false =>
              go_wp2_with fail
              refine (Hpp.out w9).mono ?_
              rintro e w10 ⟨rfl, hB⟩
              have HB10 := Lib.hid (HB9.out.trans (hB.mono HB9.out.size))
              clear hB
              go_wp2_with fail
              refine (Hapq.out w10).mono ?_
              rintro e w11 ⟨rfl, hB⟩
              have HB11 := Lib.hid (HB10.out.trans (hB.mono HB10.out.size))
              clear hB
              go_wp2_with fail
              refine (Haqp.out w11).mono ?_
              rintro e w12 ⟨rfl, hB⟩
              have HB12 := Lib.hid (HB11.out.trans (hB.mono HB11.out.size))
              clear hB
              go_wp2_with fail
              refine (Happ.out w12).mono ?_
              rintro e w13 ⟨rfl, hB⟩
              have HB13 := Lib.hid (HB12.out.trans (hB.mono HB12.out.size))
              clear hB
              go_wp2_with fail
              go_ret
              exact ⟨by simp, HB13.out⟩
            | true =>
              obtain ⟨r1, r2, r3, r4⟩ := HRA.out (by trivial) (by trivial)
              have HRa := Lib.hid (fun w => pright a w r4)
              rw [r1] at HRa
              rw [r2] at Hpa
              rw [r3] at Hap
              clear r1 r2 r3 r4
              go_wp2_with fail
              refine (HRa.out w9).mono ?_
              rintro e w10 ⟨rfl, hB⟩
              have HB10 := Lib.hid (HB9.out.trans (hB.mono HB9.out.size))
              clear hB
              go_wp2_with fail
              refine (Hpa.out w10).mono ?_
              rintro e w11 ⟨rfl, hB⟩
              have HB11 := Lib.hid (HB10.out.trans (hB.mono HB10.out.size))
              clear hB
              go_wp2_with fail
              refine (Hap.out w11).mono ?_
              rintro e w12 ⟨rfl, hB⟩
              have HB12 := Lib.hid (HB11.out.trans (hB.mono HB11.out.size))
              clear hB
              go_wp2_with fail
              refine (Hpp.out w12).mono ?_
              rintro e w13 ⟨rfl, hB⟩
              have HB13 := Lib.hid (HB12.out.trans (hB.mono HB12.out.size))
              clear hB
              go_wp2_with fail
              refine (Hapq.out w13).mono ?_
              rintro e w14 ⟨rfl, hB⟩
              have HB14 := Lib.hid (HB13.out.trans (hB.mono HB13.out.size))
              clear hB
              go_wp2_with fail
              refine (Haqp.out w14).mono ?_
              rintro e w15 ⟨rfl, hB⟩
              have HB15 := Lib.hid (HB14.out.trans (hB.mono HB14.out.size))
              clear hB
              go_wp2_with fail
              refine (Happ.out w15).mono ?_
              rintro e w16 ⟨rfl, hB⟩
              have HB16 := Lib.hid (HB15.out.trans (hB.mono HB15.out.size))
              clear hB
              go_wp2_with fail
              go_ret
              exact ⟨by simp, HB16.out⟩
theorem bl_slash (f r : ByteArray) : bl (f ++ ⟨#[47]⟩ ++ r) = bl f ++ 47 :: bl r := by
  rw [bl_append, bl_append, List.append_assoc]
  rfl
theorem slash_size (f r : ByteArray) : (f ++ ⟨#[47]⟩ ++ r).size = f.size + 1 + r.size := by
  rw [← bl_size, bl_slash, List.length_append, List.length_cons, bl_size, bl_size]
  omega
theorem within_slash (f r : ByteArray) : withinB (bl (f ++ ⟨#[47]⟩ ++ r)) (bl f) = true := (withinB_iff _ _).2 (by rw [bl_slash]; exact within_behind _ _)
theorem movedV_in (p q t : ByteArray) (h : withinB (bl p) (bl q) = true) : movedV p q t = .tuple #[.string (t ++ p.extract q.size p.size), .bool true] := by
  unfold movedV
  rw [if_pos h]
theorem bl_moved (p q t : ByteArray) : bl (t ++ p.extract q.size p.size) = bl t ++ (bl p).drop (bl q).length := by
  rw [bl_append, bl_extract, List.take_of_length_le (by rw [bl_size]; exact Nat.le_refl _), bl_size]
theorem moved_slash (f r t : ByteArray) : movedV (f ++ ⟨#[47]⟩ ++ r) f t = .tuple #[.string (t ++ ⟨#[47]⟩ ++ r), .bool true] := by
  rw [movedV_in _ _ _ (within_slash f r)]
  have e : t ++ (f ++ ⟨#[47]⟩ ++ r).extract f.size (f ++ ⟨#[47]⟩ ++ r).size = t ++ ⟨#[47]⟩ ++ r := by
    rw [← bl_inj, bl_moved, bl_slash, bl_slash, List.drop_left]
  rw [e]
theorem moved_self (f t : ByteArray) : movedV f f t = .tuple #[.string t, .bool true] := by
  rw [movedV_in _ _ _ (within_self f)]
  have e : t ++ f.extract f.size f.size = t := by
    rw [← bl_inj, bl_moved, List.drop_length, List.append_nil]
  rw [e]
theorem two_slash (f r m : ByteArray) : f ++ ⟨#[47]⟩ ++ r ++ ⟨#[47]⟩ ++ m = f ++ ⟨#[47]⟩ ++ (r ++ ⟨#[47]⟩ ++ m) := by
  rw [← bl_inj, bl_slash, bl_slash, bl_slash, bl_slash, List.append_assoc]
  rfl

set_option maxRecDepth 100000 in
set_option maxHeartbeats 8000000 in
theorem moved_law (w : World) (f : ByteArray) (hf : f.size ≤ 140737488351232) (t : ByteArray) (ht : t.size ≤ 140737488351232) (x : ByteArray) (hx : x.size ≤ 140737488351232) (m : ByteArray) (hm : m.size ≤ 140737488351232) :
    Calls Tryd.prog 5 #[.string f, .string t, .string x, .string m] w fun e w' => e = .returned (.bool true) ∧ Below w.heap.size w w' := by
  go_enter Tryd.func5, Tryd.ntmps5
  go_wp2_with fail
  refine (head_any w).mono ?_
  rintro e w1 ⟨rfl, hB⟩
  have HB1 := Lib.hid hB
  clear hB
  go_wp2_with fail
  obtain ⟨r, hr, hcall⟩ := great_any f t w1
  refine hcall.mono ?_
  clear hcall
  rintro e w2 ⟨rfl, hB⟩
  have HB2 := Lib.hid (HB1.out.trans (hB.mono HB1.out.size))
  clear hB
  cases r with
  | true =>
    clear hr
    go_wp2_with fail
    go_ret
    exact ⟨rfl, HB2.out⟩
  | false =>
    obtain ⟨bf, bt⟩ := hr rfl
    clear hr
    by_cases bx : 3000 < x.size
    · have bx' : (3000 : Int) < (x.size : Int) := by omega
      go_wp2_with fail
      go_ret
      exact ⟨rfl, HB2.out⟩
    have bx' : ¬ (3000 : Int) < (x.size : Int) := by omega
    by_cases bm : 3000 < m.size
    · have bm' : (3000 : Int) < (m.size : Int) := by omega
      go_wp2_with fail
      go_ret
      exact ⟨rfl, HB2.out⟩
    have bm' : ¬ (3000 : Int) < (m.size : Int) := by omega
    have zP := slash_size f x
    have zQ := slash_size (f ++ ⟨#[47]⟩ ++ x) m
    have zA := slash_size t x
    have zC := slash_size (t ++ ⟨#[47]⟩ ++ x) m
    have hM1 := fun w => pmoved (f ++ ⟨#[47]⟩ ++ x) f t w (by omega) ht
    have hM2 := fun w => pmoved (t ++ ⟨#[47]⟩ ++ x) t f w (by omega) hf
    have hM3 := fun w => pmoved (f ++ ⟨#[47]⟩ ++ x ++ ⟨#[47]⟩ ++ m) f t w (by omega) ht
    have hM4 := fun w => pmoved f f t w hf ht
    have hW := fun w => pwithin (t ++ ⟨#[47]⟩ ++ x ++ ⟨#[47]⟩ ++ m) (t ++ ⟨#[47]⟩ ++ x) w
    rw [moved_slash] at hM1 hM2
    rw [show movedV (f ++ ⟨#[47]⟩ ++ x ++ ⟨#[47]⟩ ++ m) f t = .tuple #[.string (t ++ ⟨#[47]⟩ ++ x ++ ⟨#[47]⟩ ++ m), .bool true] from by rw [two_slash, moved_slash, two_slash]] at hM3
    rw [moved_self] at hM4
    rw [within_slash (t ++ ⟨#[47]⟩ ++ x) m] at hW
    have HM1 := Lib.hid (hM1)
    have HM2 := Lib.hid (hM2)
    have HM3 := Lib.hid (hM3)
    have HM4 := Lib.hid (hM4)
    have HW := Lib.hid (hW)
    have n1 : ¬ 9223372036854775807 < f.size + 1 := by omega
    have n2 : ¬ 9223372036854775807 < f.size + 1 + x.size := by omega
    have n3 : ¬ 9223372036854775807 < f.size + 1 + x.size + 1 := by omega
    have n4 : ¬ 9223372036854775807 < f.size + 1 + x.size + 1 + m.size := by omega
    have ns : (⟨#[47]⟩ : ByteArray).size = 1 := rfl
    clear hM1 hM2 hM3 hM4 hW zP zQ zA zC
    go_wp2_with fail
    refine (HM1.out w2).mono ?_
    rintro e w3 ⟨rfl, hB⟩
    have HB3 := Lib.hid (HB2.out.trans (hB.mono HB2.out.size))
    clear hB
    go_wp2_with fail
    refine (HM2.out w3).mono ?_
    rintro e w4 ⟨rfl, hB⟩
    have HB4 := Lib.hid (HB3.out.trans (hB.mono HB3.out.size))
    clear hB
    go_wp2_with fail
    refine (HM3.out w4).mono ?_
    rintro e w5 ⟨rfl, hB⟩
    have HB5 := Lib.hid (HB4.out.trans (hB.mono HB4.out.size))
    clear hB
    go_wp2_with fail
    refine (HM4.out w5).mono ?_
    rintro e w6 ⟨rfl, hB⟩
    have HB6 := Lib.hid (HB5.out.trans (hB.mono HB5.out.size))
    clear hB
    go_wp2_with fail
    refine (HW.out w6).mono ?_
    rintro e w7 ⟨rfl, hB⟩
    have HB7 := Lib.hid (HB6.out.trans (hB.mono HB6.out.size))
    clear hB
    go_wp2_with fail
    go_ret
    exact ⟨by simp, HB7.out⟩
theorem within_two (p a b : ByteArray) : withinB (bl (p ++ ⟨#[47]⟩ ++ a)) (bl (p ++ ⟨#[47]⟩ ++ b)) = withinB (bl a) (bl b) := by
  rw [Bool.eq_iff_iff, withinB_iff, withinB_iff, bl_slash, bl_slash]
  exact within_ahead _ _ _
theorem within_up (p a : ByteArray) : withinB (bl p) (bl (p ++ ⟨#[47]⟩ ++ a)) = false := by
  rw [Bool.eq_false_iff]
  intro h
  have := (withinB_iff _ _).1 h
  rw [bl_slash] at this
  exact not_within_short _ _ this

set_option maxRecDepth 100000 in
set_option maxHeartbeats 8000000 in
theorem chain_law (w : World) (p : ByteArray) (hp : p.size ≤ 140737488351232) (a : ByteArray) (ha : a.size ≤ 140737488351232) (b : ByteArray) (hb : b.size ≤ 140737488351232) :
    Calls Tryd.prog 7 #[.string p, .string a, .string b] w fun e w' => e = .returned (.bool true) ∧ Below w.heap.size w w' := by
  go_enter Tryd.func7, Tryd.ntmps7
  go_wp2_with fail
  refine (head_any w).mono ?_
  rintro e w1 ⟨rfl, hB⟩
  have HB1 := Lib.hid hB
  clear hB
  go_wp2_with fail
  obtain ⟨r, hr, hcall⟩ := great_any p a w1
  refine hcall.mono ?_
  clear hcall
  rintro e w2 ⟨rfl, hB⟩
  have HB2 := Lib.hid (HB1.out.trans (hB.mono HB1.out.size))
  clear hB
  cases r with
  | true =>
    clear hr
    go_wp2_with fail
    go_ret
    exact ⟨rfl, HB2.out⟩
  | false =>
    obtain ⟨bp, ba⟩ := hr rfl
    clear hr
    by_cases bb : 3000 < b.size
    · have bb' : (3000 : Int) < (b.size : Int) := by omega
      go_wp2_with fail
      go_ret
      exact ⟨rfl, HB2.out⟩
    have bb' : ¬ (3000 : Int) < (b.size : Int) := by omega
    have h1 := fun w => pwithin (p ++ ⟨#[47]⟩ ++ a) p w
    have h2 := fun w => pwithin (p ++ ⟨#[47]⟩ ++ b) p w
    have h3 := fun w => pwithin p (p ++ ⟨#[47]⟩ ++ a) w
    have h4 := fun w => papart (p ++ ⟨#[47]⟩ ++ a) (p ++ ⟨#[47]⟩ ++ b) w
    have h5 := fun w => papart a b w
    have h6 := fun w => pwithin (p ++ ⟨#[47]⟩ ++ a) (p ++ ⟨#[47]⟩ ++ b) w
    have h7 := fun w => pwithin a b w
    have h8 := fun w => pright a w ha
    have h9 := fun w => pright b w hb
    rw [within_slash] at h1 h2
    rw [within_up] at h3
    rw [within_two, within_two] at h4
    rw [within_two] at h6
    obtain ⟨A, hA⟩ : ∃ c, c = (!withinB (bl a) (bl b) && !withinB (bl b) (bl a)) := ⟨_, rfl⟩
    rw [← hA] at h4 h5
    obtain ⟨Wc, hWc⟩ : ∃ c, c = withinB (bl a) (bl b) := ⟨_, rfl⟩
    rw [← hWc] at h6 h7
    obtain ⟨c1, hc1⟩ : ∃ c, c = right 16 8 (bl a) := ⟨_, rfl⟩
    rw [← hc1] at h8
    obtain ⟨c2, hc2⟩ : ∃ c, c = right 16 8 (bl b) := ⟨_, rfl⟩
    rw [← hc2] at h9
    have H1 := Lib.hid (h1)
    have H2 := Lib.hid (h2)
    have H3 := Lib.hid (h3)
    have H4 := Lib.hid (h4)
    have H5 := Lib.hid (h5)
    have H6 := Lib.hid (h6)
    have H7 := Lib.hid (h7)
    have H8 := Lib.hid (h8)
    have H9 := Lib.hid (h9)
    have n1 : ¬ 9223372036854775807 < p.size + 1 := by omega
    have n2 : ¬ 9223372036854775807 < p.size + 1 + a.size := by omega
    have n3 : ¬ 9223372036854775807 < p.size + 1 + b.size := by omega
    have ns : (⟨#[47]⟩ : ByteArray).size = 1 := rfl
    clear h1 h2 h3 h4 h5 h6 h7 h8 h9 hA hWc hc1 hc2
    go_wp2_with fail
    refine (H1.out w2).mono ?_
    rintro e w3 ⟨rfl, hB⟩
    have HB3 := Lib.hid (HB2.out.trans (hB.mono HB2.out.size))
    clear hB
    go_wp2_with fail
    refine (H2.out w3).mono ?_
    rintro e w4 ⟨rfl, hB⟩
    have HB4 := Lib.hid (HB3.out.trans (hB.mono HB3.out.size))
    clear hB
    go_wp2_with fail
    refine (H3.out w4).mono ?_
    rintro e w5 ⟨rfl, hB⟩
    have HB5 := Lib.hid (HB4.out.trans (hB.mono HB4.out.size))
    clear hB
    go_wp2_with fail
    refine (H8.out w5).mono ?_
    rintro e w6 ⟨rfl, hB⟩
    have HB6 := Lib.hid (HB5.out.trans (hB.mono HB5.out.size))
    clear hB
    cases c1 with
    | false =>
      go_wp2_with fail
      go_ret
      exact ⟨by simp, HB6.out⟩
    | true =>
      go_wp2_with fail
      refine (H9.out w6).mono ?_
      rintro e w7 ⟨rfl, hB⟩
      have HB7 := Lib.hid (HB6.out.trans (hB.mono HB6.out.size))
      clear hB
      cases c2 with
      | false =>
        go_wp2_with fail
        go_ret
        exact ⟨by simp, HB7.out⟩
      | true =>
        go_wp2_with fail
        refine (H4.out w7).mono ?_
        rintro e w8 ⟨rfl, hB⟩
        have HB8 := Lib.hid (HB7.out.trans (hB.mono HB7.out.size))
        clear hB
        go_wp2_with fail
        refine (H5.out w8).mono ?_
        rintro e w9 ⟨rfl, hB⟩
        have HB9 := Lib.hid (HB8.out.trans (hB.mono HB8.out.size))
        clear hB
        go_wp2_with fail
        refine (H6.out w9).mono ?_
        rintro e w10 ⟨rfl, hB⟩
        have HB10 := Lib.hid (HB9.out.trans (hB.mono HB9.out.size))
        clear hB
        go_wp2_with fail
        refine (H7.out w10).mono ?_
        rintro e w11 ⟨rfl, hB⟩
        have HB11 := Lib.hid (HB10.out.trans (hB.mono HB10.out.size))
        clear hB
        go_wp2_with fail
        go_ret
        exact ⟨by simp, HB11.out⟩
end Go.Proofs.YtfiemgadoglhiaaDoor
