/- Chapter 05's statement LinesTells: its contract. -/
import Derived.Test.YtmhpnidhokcaeaaDoorLaws05
import Derived.Test.YtmhpnidhokcaeaaDoorLinesD
set_option linter.unusedVariables false
set_option linter.unusedSimpArgs false
namespace Go.Proofs.YtmhpnidhokcaeaaDoor
open Go Go.RowKit Go.Proofs.YtmhpnidhokcaeaaDoorW.PrintWords Go.Proofs.YtmhpnidhokcaeaaDoorW.PrintLast Go.Proofs.YtmhpnidhokcaeaaDoor.PLinesTells

theorem rsplit_n (s : ByteArray) (w : World) (hs : s.size ≤ 1000000) :
    Calls Tryd.prog 16 #[.string s] w fun e w' => ∃ A n c, e = .returned (.tuple #[.slice A n c, .bool (splitOf s).2]) ∧ (splitOf s).1.length = n ∧ n ≤ c ∧ Kd.string.C w' A n (splitOf s).1 ∧ Below w.heap.size w w' := by
  refine (counterpaneref05_Split.calls (s.size + 3) s (splitOf s).1 (splitOf s).2 w (rsplit_f s (by omega))).mono ?_
  rintro e w' ⟨v, rfl, hr, hB⟩
  obtain ⟨A, c, rfl, hc, hC⟩ := Kd.R_reads hr
  exact ⟨A, _, c, rfl, rfl, hc, hC, hB⟩
theorem rtokens_n (s : ByteArray) (w : World) (hs : s.size ≤ 1000000) :
    Calls Tryd.prog 21 #[.string s] w fun e w' => ∃ A n c, e = .returned (.slice A n c) ∧ (tokOf s).length = n ∧ n ≤ c ∧ Kd.string.C w' A n (tokOf s) ∧ Below w.heap.size w w' := by
  refine (counterpaneref05_Tokens.calls (s.size + 3) s (tokOf s) w (rtokens_f s (by omega) _ (Nat.le_refl _))).mono ?_
  rintro e w' ⟨v, rfl, hr, hB⟩
  obtain ⟨A, c, rfl, hc, hC⟩ := Kd.R_reads hr
  exact ⟨A, _, c, rfl, rfl, hc, hC, hB⟩
theorem rtoken_n (s : ByteArray) (w : World) (hs : s.size ≤ 140737488351232) :
    Calls Tryd.prog 22 #[.string s] w fun e w' => e = .returned (.bool (tokenB (bl s))) ∧ Below w.heap.size w w' := (rtoken_any s w hs).mono fun e w' h => ⟨h.1, h.2 ▸ Below.refl _ _⟩
theorem rreplace_n (s f t : ByteArray) (w : World) (hs : s.size ≤ 100000) (hf : f.size ≤ 10000) (ht : t.size ≤ 10000) :
    Calls Tryd.prog 23 #[.string s, .string f, .string t] w fun e w' => e = .returned (.string (replB s f t)) ∧ Below w.heap.size w w' :=
  counterpaneref05_Replace.calls _ s f t _ w (rrepl_f s f t hs hf ht)
theorem rjoin_n (A : Option Addr) (n c : Nat) (x : List ByteArray) (hl : x.length = n) (w : World) (hA : Kd.string.C w A n x) (hc : n ≤ c) (hn : n ≤ 1000000) (hj : (joinOf x).length ≤ 1000000) :
    Calls Tryd.prog 18 #[.slice A n c] w fun e w' => e = .returned (.string (ba (joinOf x))) ∧ Below w.heap.size w w' := by
  subst hl
  refine counterpaneref05_Join.calls (x.length + 1) A c x _ w hA hc ?_
  have := rjoin_l x (by omega) (by omega) x.length 0 (x.length + 1) (by omega) (by omega)
  exact this
theorem rright_n (A : Option Addr) (n c : Nat) (x : List ByteArray) (hl : x.length = n) (w : World) (hA : Kd.string.C w A n x) (hc : n ≤ c) (hn : n ≤ 1000000) (hs : ∀ y ∈ x, y.size ≤ 1000000) :
    Calls Tryd.prog 20 #[.slice A n c] w fun e w' => e = .returned (.bool (rightB x)) ∧ Below w.heap.size w w' := by
  subst hl
  obtain ⟨k, hk⟩ := rright_l x (by omega) (fun y hy => by have := hs y hy; omega) x.length 0 (by omega)
  refine (counterpaneref05_Right.calls k A c x _ w hA hc (hk k (Nat.le_refl _))).mono ?_
  rintro e w' ⟨rfl, hD⟩
  exact ⟨rfl, hD.below⟩
theorem join_all (x : List ByteArray) : ∀ y ∈ x, y.size ≤ (joinOf x).length := by
  intro y hy
  obtain ⟨i, hi, rfl⟩ := List.getElem_of_mem hy
  have := join_part x i hi
  omega

set_option maxRecDepth 100000 in
set_option maxHeartbeats 16000000 in
theorem tells_law (w : World) (s : ByteArray) (hs : s.size ≤ 140737488351232) (x : List ByteArray) (A : Option Addr) (n c : Nat) (h : (Kd.slice 9 Kd.string).K w x [.slice A n c]) (g : goodL x) (f : ByteArray) (hf : f.size ≤ 140737488351232) (t : ByteArray) (ht : t.size ≤ 140737488351232) (hm : Cell0 w) :
    Calls Tryd.prog 7 #[.string s, .slice A n c, .string f, .string t] w fun e w' => e = .returned (.bool true) ∧ Below w.heap.size w w' := by
  obtain ⟨rfl, hc, hA⟩ := lines_open h
  have gx : x.length < 100000000000000 := by have := g.1; omega
  have HX := Lib.hid hA
  have HM := Lib.hid hm
  obtain ⟨n, hn⟩ : ∃ n, n = x.length := ⟨_, rfl⟩
  rw [← hn] at hc gx HX ⊢
  have HL := Lib.hid hn.symm
  clear h g hA hn hm
  go_enter Tryd.func7, Tryd.ntmps7
  go_wp2_with fail
  refine (head_any w HM.out).mono ?_
  rintro e w1 ⟨rfl, hB⟩
  have HB1 := Lib.hid hB
  have HX := Lib.hid (Kd.C_below HX.out hB)
  clear hB
  by_cases bs : 20000 < s.size
  · have bs' : (20000 : Int) < (s.size : Int) := by omega
    go_wp2_with fail
    go_ret
    exact ⟨by simp, HB1.out⟩
  · have bs' : ¬ (20000 : Int) < (s.size : Int) := by omega
    go_wp2_with fail
    obtain ⟨r, hr, hcall⟩ := great_n n c x A w1 HL.out HX.out hc gx
    refine (hcall).mono ?_
    rintro e w2 ⟨rfl, hB⟩
    have HB2 := Lib.hid (below_then HB1.out HB1.out.size hB)
    have HX := Lib.hid (Kd.C_below HX.out hB)
    clear hB
    clear hcall
    cases r with
    | false =>
      obtain ⟨bj, bn⟩ := hr rfl
      clear hr
      by_cases bf : 1000 < f.size
      · have bf' : (1000 : Int) < (f.size : Int) := by omega
        go_wp2_with fail
        go_ret
        exact ⟨by simp, HB2.out⟩
      · have bf' : ¬ (1000 : Int) < (f.size : Int) := by omega
        by_cases bt : 100 < t.size
        · have bt' : (100 : Int) < (t.size : Int) := by omega
          go_wp2_with fail
          go_ret
          exact ⟨by simp, HB2.out⟩
        · have bt' : ¬ (100 : Int) < (t.size : Int) := by omega
          have hsz := join_all x
          have HSZ := Lib.hid (fun y hy => Nat.le_trans (hsz y hy) (show (joinOf x).length ≤ 1000000 by omega))
          clear hsz
          have hsp := fun w hm => split_n s w hm (by omega)
          have hrs := fun w => rsplit_n s w (by omega)
          obtain ⟨is, his⟩ : ∃ c, c = (splitOf s).2 := ⟨_, rfl⟩
          obtain ⟨ys, hys⟩ : ∃ c, c = (splitOf s).1 := ⟨_, rfl⟩
          have hyl : ys.length ≤ 20000 := by
            rw [hys]
            cases h : (splitOf s).2 with
            | true => have h5 := (split_yes s h).2.2; have h6 := count_le s; omega
            | false => rw [(split_no s h).1]; simp
          rw [← his, ← hys] at hsp hrs
          have HSP := Lib.hid hsp
          have HRS := Lib.hid hrs
          have HT := Lib.hid (fun w => tokens_n s w (by omega))
          have HRT := Lib.hid (fun w => rtokens_n s w (by omega))
          have htl := tokOf_len s
          have hk := fun w => token_n f w (by omega)
          have hrk := fun w => rtoken_n f w (by omega)
          obtain ⟨tf, htf⟩ : ∃ c, c = tokenB (bl f) := ⟨_, rfl⟩
          rw [← htf] at hk hrk
          have HK := Lib.hid hk
          have HRK := Lib.hid hrk
          have hr := fun w => replace_n s f t w (by omega) (by omega)
          have hrr := fun w => rreplace_n s f t w (by omega) (by omega) (by omega)
          obtain ⟨a, ha⟩ : ∃ a, a = replB s f t := ⟨_, rfl⟩
          rw [← ha] at hr hrr
          have HR := Lib.hid hr
          have HRR := Lib.hid hrr
          have haa : (a.toList == a.toList) = true := by simp
          have hj := fun w h => join_any A n c x HL.out w h (by omega) (by omega)
          have hrj := fun w h => rjoin_n A n c x HL.out w h hc (by omega) (by omega)
          obtain ⟨jt, hjt⟩ : ∃ a, a = ba (joinOf x) := ⟨_, rfl⟩
          rw [← hjt] at hj hrj
          have HJ := Lib.hid hj
          have HRJ := Lib.hid hrj
          have hjj : (jt.toList == jt.toList) = true := by simp
          have hg := fun w h => right_n A n c x HL.out w h (by omega)
          have hrg := fun w h => rright_n A n c x HL.out w h hc (by omega) HSZ.out
          obtain ⟨q, hq⟩ : ∃ a, a = rightB x := ⟨_, rfl⟩
          rw [← hq] at hg hrg
          have HG := Lib.hid hg
          have HRG := Lib.hid hrg
          clear hsp hrs his hys hk hrk htf hr hrr ha hj hrj hjt hg hrg hq
          go_wp2_with fail
          refine (HSP.out w2 (HM.out.below HB2.out)).mono ?_
          rintro e w3 ⟨A1, n1, c1, rfl, hn1, hc1, hC1, hB⟩
          have HB3 := Lib.hid (below_then HB2.out HB2.out.size hB)
          have HX := Lib.hid (Kd.C_below HX.out hB)
          clear hB
          have H1 := Lib.hid hC1
          clear hC1
          go_wp2_with fail
          refine (HRS.out w3).mono ?_
          rintro e w4 ⟨A2, n2, c2, rfl, hn2, hc2, hC2, hB⟩
          have HB4 := Lib.hid (below_then HB3.out HB3.out.size hB)
          have HX := Lib.hid (Kd.C_below HX.out hB)
          have H1 := Lib.hid (Kd.C_below H1.out hB)
          clear hB
          have H2 := Lib.hid hC2
          clear hC2
          obtain rfl : n2 = n1 := hn2.symm.trans hn1
          have HLy := Lib.hid hn1
          have hny : n2 ≤ 20000 := by rw [← hn1]; exact hyl
          clear hn1 hn2
          go_wp2_with fail
          have hsa := fun w h1 h2 => lsame_n n2 n2 c1 c2 ys ys A1 A2 w HLy.out HLy.out h1 hc1 h2 hc2 (by omega)
          rw [decide_eq_true rfl] at hsa
          have HSA := Lib.hid hsa
          clear hsa
          refine (HSA.out w4 H1.out H2.out).mono ?_
          rintro e w5 ⟨rfl, hB⟩
          have HB5 := Lib.hid (below_then HB4.out HB4.out.size hB)
          have HX := Lib.hid (Kd.C_below HX.out hB)
          have H1 := Lib.hid (Kd.C_below H1.out hB)
          have H2 := Lib.hid (Kd.C_below H2.out hB)
          clear hB
          cases is with
          | false =>
            go_wp2_with fail
            refine (HJ.out w5 HX.out).mono ?_
            rintro e w6 ⟨rfl, hB⟩
            have HB6 := Lib.hid (below_then HB5.out HB5.out.size hB)
            have HX := Lib.hid (Kd.C_below HX.out hB)
            clear hB
            go_wp2_with fail
            refine (HRJ.out w6 HX.out).mono ?_
            rintro e w7 ⟨rfl, hB⟩
            have HB7 := Lib.hid (below_then HB6.out HB6.out.size hB)
            have HX := Lib.hid (Kd.C_below HX.out hB)
            clear hB
            go_wp2_with fail
            refine (HG.out w7 HX.out).mono ?_
            rintro e w8 ⟨rfl, hB⟩
            have HB8 := Lib.hid (below_then HB7.out HB7.out.size hB)
            have HX := Lib.hid (Kd.C_below HX.out hB)
            clear hB
            go_wp2_with fail
            refine (HRG.out w8 HX.out).mono ?_
            rintro e w9 ⟨rfl, hB⟩
            have HB9 := Lib.hid (below_then HB8.out HB8.out.size hB)
            have HX := Lib.hid (Kd.C_below HX.out hB)
            clear hB
            cases q with
            | false =>
              go_wp2_with fail
              refine (HT.out w9).mono ?_
              rintro e w10 ⟨A3, n3, c3, rfl, hn3, hc3, hC3, hB⟩
              have HB10 := Lib.hid (below_then HB9.out HB9.out.size hB)
              have HX := Lib.hid (Kd.C_below HX.out hB)
              clear hB
              have H3 := Lib.hid hC3
              clear hC3
              go_wp2_with fail
              refine (HRT.out w10).mono ?_
              rintro e w11 ⟨A4, n4, c4, rfl, hn4, hc4, hC4, hB⟩
              have HB11 := Lib.hid (below_then HB10.out HB10.out.size hB)
              have HX := Lib.hid (Kd.C_below HX.out hB)
              have H3 := Lib.hid (Kd.C_below H3.out hB)
              clear hB
              have H4 := Lib.hid hC4
              clear hC4
              obtain rfl : n4 = n3 := hn4.symm.trans hn3
              have HLt := Lib.hid hn3
              have hnt : n4 ≤ 20000 := by rw [← hn3]; omega
              clear hn3 hn4
              go_wp2_with fail
              have hsb := fun w h1 h2 => lsame_n n4 n4 c3 c4 (tokOf s) (tokOf s) A3 A4 w HLt.out HLt.out h1 hc3 h2 hc4 (by omega)
              rw [decide_eq_true rfl] at hsb
              have HSB := Lib.hid hsb
              clear hsb
              refine (HSB.out w11 H3.out H4.out).mono ?_
              rintro e w12 ⟨rfl, hB⟩
              have HB12 := Lib.hid (below_then HB11.out HB11.out.size hB)
              have HX := Lib.hid (Kd.C_below HX.out hB)
              have H3 := Lib.hid (Kd.C_below H3.out hB)
              have H4 := Lib.hid (Kd.C_below H4.out hB)
              clear hB
              go_wp2_with fail
              refine (HK.out w12).mono ?_
              rintro e w13 ⟨rfl, hB⟩
              have HB13 := Lib.hid (below_then HB12.out HB12.out.size hB)
              have HX := Lib.hid (Kd.C_below HX.out hB)
              clear hB
              go_wp2_with fail
              refine (HRK.out w13).mono ?_
              rintro e w14 ⟨rfl, hB⟩
              have HB14 := Lib.hid (below_then HB13.out HB13.out.size hB)
              have HX := Lib.hid (Kd.C_below HX.out hB)
              clear hB
              cases tf with
              | false =>
                go_wp2_with fail
                refine (HR.out w14).mono ?_
                rintro e w15 ⟨rfl, hB⟩
                have HB15 := Lib.hid (below_then HB14.out HB14.out.size hB)
                have HX := Lib.hid (Kd.C_below HX.out hB)
                clear hB
                go_wp2_with fail
                refine (HRR.out w15).mono ?_
                rintro e w16 ⟨rfl, hB⟩
                have HB16 := Lib.hid (below_then HB15.out HB15.out.size hB)
                have HX := Lib.hid (Kd.C_below HX.out hB)
                clear hB
                go_wp2_with fail
                go_ret
                exact ⟨by simp, HB16.out⟩
              | true =>
                go_wp2_with fail
                refine (HR.out w14).mono ?_
                rintro e w15 ⟨rfl, hB⟩
                have HB15 := Lib.hid (below_then HB14.out HB14.out.size hB)
                have HX := Lib.hid (Kd.C_below HX.out hB)
                clear hB
                go_wp2_with fail
                refine (HRR.out w15).mono ?_
                rintro e w16 ⟨rfl, hB⟩
                have HB16 := Lib.hid (below_then HB15.out HB15.out.size hB)
                have HX := Lib.hid (Kd.C_below HX.out hB)
                clear hB
                go_wp2_with fail
                go_ret
                exact ⟨by simp, HB16.out⟩
            | true =>
              go_wp2_with fail
              refine (HT.out w9).mono ?_
              rintro e w10 ⟨A3, n3, c3, rfl, hn3, hc3, hC3, hB⟩
              have HB10 := Lib.hid (below_then HB9.out HB9.out.size hB)
              have HX := Lib.hid (Kd.C_below HX.out hB)
              clear hB
              have H3 := Lib.hid hC3
              clear hC3
              go_wp2_with fail
              refine (HRT.out w10).mono ?_
              rintro e w11 ⟨A4, n4, c4, rfl, hn4, hc4, hC4, hB⟩
              have HB11 := Lib.hid (below_then HB10.out HB10.out.size hB)
              have HX := Lib.hid (Kd.C_below HX.out hB)
              have H3 := Lib.hid (Kd.C_below H3.out hB)
              clear hB
              have H4 := Lib.hid hC4
              clear hC4
              obtain rfl : n4 = n3 := hn4.symm.trans hn3
              have HLt := Lib.hid hn3
              have hnt : n4 ≤ 20000 := by rw [← hn3]; omega
              clear hn3 hn4
              go_wp2_with fail
              have hsb := fun w h1 h2 => lsame_n n4 n4 c3 c4 (tokOf s) (tokOf s) A3 A4 w HLt.out HLt.out h1 hc3 h2 hc4 (by omega)
              rw [decide_eq_true rfl] at hsb
              have HSB := Lib.hid hsb
              clear hsb
              refine (HSB.out w11 H3.out H4.out).mono ?_
              rintro e w12 ⟨rfl, hB⟩
              have HB12 := Lib.hid (below_then HB11.out HB11.out.size hB)
              have HX := Lib.hid (Kd.C_below HX.out hB)
              have H3 := Lib.hid (Kd.C_below H3.out hB)
              have H4 := Lib.hid (Kd.C_below H4.out hB)
              clear hB
              go_wp2_with fail
              refine (HK.out w12).mono ?_
              rintro e w13 ⟨rfl, hB⟩
              have HB13 := Lib.hid (below_then HB12.out HB12.out.size hB)
              have HX := Lib.hid (Kd.C_below HX.out hB)
              clear hB
              go_wp2_with fail
              refine (HRK.out w13).mono ?_
              rintro e w14 ⟨rfl, hB⟩
              have HB14 := Lib.hid (below_then HB13.out HB13.out.size hB)
              have HX := Lib.hid (Kd.C_below HX.out hB)
              clear hB
              cases tf with
              | false =>
                go_wp2_with fail
                refine (HR.out w14).mono ?_
                rintro e w15 ⟨rfl, hB⟩
                have HB15 := Lib.hid (below_then HB14.out HB14.out.size hB)
                have HX := Lib.hid (Kd.C_below HX.out hB)
                clear hB
                go_wp2_with fail
                refine (HRR.out w15).mono ?_
                rintro e w16 ⟨rfl, hB⟩
                have HB16 := Lib.hid (below_then HB15.out HB15.out.size hB)
                have HX := Lib.hid (Kd.C_below HX.out hB)
                clear hB
                go_wp2_with fail
                go_ret
                exact ⟨by simp, HB16.out⟩
              | true =>
                go_wp2_with fail
                refine (HR.out w14).mono ?_
                rintro e w15 ⟨rfl, hB⟩
                have HB15 := Lib.hid (below_then HB14.out HB14.out.size hB)
                have HX := Lib.hid (Kd.C_below HX.out hB)
                clear hB
                go_wp2_with fail
                refine (HRR.out w15).mono ?_
                rintro e w16 ⟨rfl, hB⟩
                have HB16 := Lib.hid (below_then HB15.out HB15.out.size hB)
                have HX := Lib.hid (Kd.C_below HX.out hB)
                clear hB
                go_wp2_with fail
                go_ret
                exact ⟨by simp, HB16.out⟩
          | true =>
            go_wp2_with fail
            refine (HJ.out w5 HX.out).mono ?_
            rintro e w6 ⟨rfl, hB⟩
            have HB6 := Lib.hid (below_then HB5.out HB5.out.size hB)
            have HX := Lib.hid (Kd.C_below HX.out hB)
            clear hB
            go_wp2_with fail
            refine (HRJ.out w6 HX.out).mono ?_
            rintro e w7 ⟨rfl, hB⟩
            have HB7 := Lib.hid (below_then HB6.out HB6.out.size hB)
            have HX := Lib.hid (Kd.C_below HX.out hB)
            clear hB
            go_wp2_with fail
            refine (HG.out w7 HX.out).mono ?_
            rintro e w8 ⟨rfl, hB⟩
            have HB8 := Lib.hid (below_then HB7.out HB7.out.size hB)
            have HX := Lib.hid (Kd.C_below HX.out hB)
            clear hB
            go_wp2_with fail
            refine (HRG.out w8 HX.out).mono ?_
            rintro e w9 ⟨rfl, hB⟩
            have HB9 := Lib.hid (below_then HB8.out HB8.out.size hB)
            have HX := Lib.hid (Kd.C_below HX.out hB)
            clear hB
            cases q with
            | false =>
              go_wp2_with fail
              refine (HT.out w9).mono ?_
              rintro e w10 ⟨A3, n3, c3, rfl, hn3, hc3, hC3, hB⟩
              have HB10 := Lib.hid (below_then HB9.out HB9.out.size hB)
              have HX := Lib.hid (Kd.C_below HX.out hB)
              clear hB
              have H3 := Lib.hid hC3
              clear hC3
              go_wp2_with fail
              refine (HRT.out w10).mono ?_
              rintro e w11 ⟨A4, n4, c4, rfl, hn4, hc4, hC4, hB⟩
              have HB11 := Lib.hid (below_then HB10.out HB10.out.size hB)
              have HX := Lib.hid (Kd.C_below HX.out hB)
              have H3 := Lib.hid (Kd.C_below H3.out hB)
              clear hB
              have H4 := Lib.hid hC4
              clear hC4
              obtain rfl : n4 = n3 := hn4.symm.trans hn3
              have HLt := Lib.hid hn3
              have hnt : n4 ≤ 20000 := by rw [← hn3]; omega
              clear hn3 hn4
              go_wp2_with fail
              have hsb := fun w h1 h2 => lsame_n n4 n4 c3 c4 (tokOf s) (tokOf s) A3 A4 w HLt.out HLt.out h1 hc3 h2 hc4 (by omega)
              rw [decide_eq_true rfl] at hsb
              have HSB := Lib.hid hsb
              clear hsb
              refine (HSB.out w11 H3.out H4.out).mono ?_
              rintro e w12 ⟨rfl, hB⟩
              have HB12 := Lib.hid (below_then HB11.out HB11.out.size hB)
              have HX := Lib.hid (Kd.C_below HX.out hB)
              have H3 := Lib.hid (Kd.C_below H3.out hB)
              have H4 := Lib.hid (Kd.C_below H4.out hB)
              clear hB
              go_wp2_with fail
              refine (HK.out w12).mono ?_
              rintro e w13 ⟨rfl, hB⟩
              have HB13 := Lib.hid (below_then HB12.out HB12.out.size hB)
              have HX := Lib.hid (Kd.C_below HX.out hB)
              clear hB
              go_wp2_with fail
              refine (HRK.out w13).mono ?_
              rintro e w14 ⟨rfl, hB⟩
              have HB14 := Lib.hid (below_then HB13.out HB13.out.size hB)
              have HX := Lib.hid (Kd.C_below HX.out hB)
              clear hB
              cases tf with
              | false =>
                go_wp2_with fail
                refine (HR.out w14).mono ?_
                rintro e w15 ⟨rfl, hB⟩
                have HB15 := Lib.hid (below_then HB14.out HB14.out.size hB)
                have HX := Lib.hid (Kd.C_below HX.out hB)
                clear hB
                go_wp2_with fail
                refine (HRR.out w15).mono ?_
                rintro e w16 ⟨rfl, hB⟩
                have HB16 := Lib.hid (below_then HB15.out HB15.out.size hB)
                have HX := Lib.hid (Kd.C_below HX.out hB)
                clear hB
                go_wp2_with fail
                go_ret
                exact ⟨by simp, HB16.out⟩
              | true =>
                go_wp2_with fail
                refine (HR.out w14).mono ?_
                rintro e w15 ⟨rfl, hB⟩
                have HB15 := Lib.hid (below_then HB14.out HB14.out.size hB)
                have HX := Lib.hid (Kd.C_below HX.out hB)
                clear hB
                go_wp2_with fail
                refine (HRR.out w15).mono ?_
                rintro e w16 ⟨rfl, hB⟩
                have HB16 := Lib.hid (below_then HB15.out HB15.out.size hB)
                have HX := Lib.hid (Kd.C_below HX.out hB)
                clear hB
                go_wp2_with fail
                go_ret
                exact ⟨by simp, HB16.out⟩
            | true =>
              go_wp2_with fail
              refine (HT.out w9).mono ?_
              rintro e w10 ⟨A3, n3, c3, rfl, hn3, hc3, hC3, hB⟩
              have HB10 := Lib.hid (below_then HB9.out HB9.out.size hB)
              have HX := Lib.hid (Kd.C_below HX.out hB)
              clear hB
              have H3 := Lib.hid hC3
              clear hC3
              go_wp2_with fail
              refine (HRT.out w10).mono ?_
              rintro e w11 ⟨A4, n4, c4, rfl, hn4, hc4, hC4, hB⟩
              have HB11 := Lib.hid (below_then HB10.out HB10.out.size hB)
              have HX := Lib.hid (Kd.C_below HX.out hB)
              have H3 := Lib.hid (Kd.C_below H3.out hB)
              clear hB
              have H4 := Lib.hid hC4
              clear hC4
              obtain rfl : n4 = n3 := hn4.symm.trans hn3
              have HLt := Lib.hid hn3
              have hnt : n4 ≤ 20000 := by rw [← hn3]; omega
              clear hn3 hn4
              go_wp2_with fail
              have hsb := fun w h1 h2 => lsame_n n4 n4 c3 c4 (tokOf s) (tokOf s) A3 A4 w HLt.out HLt.out h1 hc3 h2 hc4 (by omega)
              rw [decide_eq_true rfl] at hsb
              have HSB := Lib.hid hsb
              clear hsb
              refine (HSB.out w11 H3.out H4.out).mono ?_
              rintro e w12 ⟨rfl, hB⟩
              have HB12 := Lib.hid (below_then HB11.out HB11.out.size hB)
              have HX := Lib.hid (Kd.C_below HX.out hB)
              have H3 := Lib.hid (Kd.C_below H3.out hB)
              have H4 := Lib.hid (Kd.C_below H4.out hB)
              clear hB
              go_wp2_with fail
              refine (HK.out w12).mono ?_
              rintro e w13 ⟨rfl, hB⟩
              have HB13 := Lib.hid (below_then HB12.out HB12.out.size hB)
              have HX := Lib.hid (Kd.C_below HX.out hB)
              clear hB
              go_wp2_with fail
              refine (HRK.out w13).mono ?_
              rintro e w14 ⟨rfl, hB⟩
              have HB14 := Lib.hid (below_then HB13.out HB13.out.size hB)
              have HX := Lib.hid (Kd.C_below HX.out hB)
              clear hB
              cases tf with
              | false =>
                go_wp2_with fail
                refine (HR.out w14).mono ?_
                rintro e w15 ⟨rfl, hB⟩
                have HB15 := Lib.hid (below_then HB14.out HB14.out.size hB)
                have HX := Lib.hid (Kd.C_below HX.out hB)
                clear hB
                go_wp2_with fail
                refine (HRR.out w15).mono ?_
                rintro e w16 ⟨rfl, hB⟩
                have HB16 := Lib.hid (below_then HB15.out HB15.out.size hB)
                have HX := Lib.hid (Kd.C_below HX.out hB)
                clear hB
                go_wp2_with fail
                go_ret
                exact ⟨by simp, HB16.out⟩
              | true =>
                go_wp2_with fail
                refine (HR.out w14).mono ?_
                rintro e w15 ⟨rfl, hB⟩
                have HB15 := Lib.hid (below_then HB14.out HB14.out.size hB)
                have HX := Lib.hid (Kd.C_below HX.out hB)
                clear hB
                go_wp2_with fail
                refine (HRR.out w15).mono ?_
                rintro e w16 ⟨rfl, hB⟩
                have HB16 := Lib.hid (below_then HB15.out HB15.out.size hB)
                have HX := Lib.hid (Kd.C_below HX.out hB)
                clear hB
                go_wp2_with fail
                go_ret
                exact ⟨by simp, HB16.out⟩
    | true =>
      clear hr
      go_wp2_with fail
      go_ret
      exact ⟨by simp, HB2.out⟩
end Go.Proofs.YtmhpnidhokcaeaaDoor
