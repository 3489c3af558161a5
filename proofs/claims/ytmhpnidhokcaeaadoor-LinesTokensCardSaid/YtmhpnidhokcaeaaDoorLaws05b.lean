/- Chapter 05's statements LinesOther and LinesTokens: their contracts. -/
import Derived.Test.YtmhpnidhokcaeaaDoorLaws05
import Derived.Test.YtmhpnidhokcaeaaDoorLinesP
set_option linter.unusedVariables false
set_option linter.unusedSimpArgs false
namespace Go.Proofs.YtmhpnidhokcaeaaDoor
open Go Go.RowKit Go.Proofs.YtmhpnidhokcaeaaDoorW.PrintWords Go.Proofs.YtmhpnidhokcaeaaDoorW.PrintLast


set_option maxRecDepth 100000 in
set_option maxHeartbeats 16000000 in
theorem other_law (w : World) (s : ByteArray) (hs : s.size ≤ 140737488351232) (f : ByteArray) (hf : f.size ≤ 140737488351232) (t : ByteArray) (ht : t.size ≤ 140737488351232) (hm : Cell0 w) :
    Calls Tryd.prog 6 #[.string s, .string f, .string t] w fun e w' => e = .returned (.bool true) ∧ Below w.heap.size w w' := by
  have HM := Lib.hid hm
  clear hm
  go_enter Tryd.func6, Tryd.ntmps6
  go_wp2_with fail
  refine (head_any w HM.out).mono ?_
  rintro e w1 ⟨rfl, hB⟩
  have HB1 := Lib.hid hB
  clear hB
  by_cases bs : 9000 < s.size
  · have bs' : (9000 : Int) < (s.size : Int) := by omega
    go_wp2_with fail
    go_ret
    exact ⟨by simp, HB1.out⟩
  · have bs' : ¬ (9000 : Int) < (s.size : Int) := by omega
    by_cases bf : 1000 < f.size
    · have bf' : (1000 : Int) < (f.size : Int) := by omega
      go_wp2_with fail
      go_ret
      exact ⟨by simp, HB1.out⟩
    · have bf' : ¬ (1000 : Int) < (f.size : Int) := by omega
      by_cases bt : 1000 < t.size
      · have bt' : (1000 : Int) < (t.size : Int) := by omega
        go_wp2_with fail
        go_ret
        exact ⟨by simp, HB1.out⟩
      · have bt' : ¬ (1000 : Int) < (t.size : Int) := by omega
        have hk := fun w => token_n f w (by omega)
        obtain ⟨tf, htf⟩ : ∃ c, c = tokenB (bl f) := ⟨_, rfl⟩
        rw [← htf] at hk
        have HK := Lib.hid hk
        have HTF := Lib.hid htf.symm
        clear hk htf
        go_wp2_with fail
        refine (tokens_n s w1 (by omega)).mono ?_
        rintro e w2 ⟨A1, n1, c1, rfl, hn1, hc1, hC1, hB⟩
        have HB2 := Lib.hid (below_then HB1.out HB1.out.size hB)
        clear hB
        have H1 := Lib.hid hC1
        clear hC1
        have hz1 := tokOf_len s
        rw [hn1] at hz1
        go_wp2_with fail
        go_loopw [9, 10] (fun vb vi wr => ∃ i : Nat, i ≤ n1 ∧ vi = .int .i64 (i : Int) ∧ vb = .bool (hasB f ((tokOf s).take i)) ∧ wr = w2) (fun _ vi _ => n1 - (intOf vi).toNat)
        case atStart => exact ⟨0, Nat.zero_le _, rfl, rfl, rfl⟩
        case round =>
          obtain ⟨i, hi, rfl, rfl, hw⟩ := hrel
          have hw2 := hw.symm
          clear hw
          subst hw2
          obtain ⟨b1, hb1⟩ : ∃ b, b = hasB f ((tokOf s).take i) := ⟨_, rfl⟩
          rw [← hb1]
          by_cases hin : i < n1
          · skip
            have hin1 : (i : Int) < (n1 : Int) := by omega
            have hi0 : (0 : Int) ≤ (i : Int) := by omega
            have hxi : i < (tokOf s).length := by rw [hn1]; exact hin
            obtain ⟨ad, rfl, ca1⟩ := Kd.at_string H1.out (i : Int) hi0 hin1
            rw [rdOf_nat _ _ _ hxi, Int.toNat_natCast] at ca1
            have hnx := hasB_next f (tokOf s) i hxi
            obtain ⟨x, hx⟩ : ∃ x, x = (tokOf s)[i]'hxi := ⟨_, rfl⟩
            rw [← hx] at ca1 hnx
            have hq := beq_str x f
            obtain ⟨d, hd⟩ : ∃ d, d = decide (x = f) := ⟨_, rfl⟩
            rw [← hd] at hnx hq
            rw [← hb1] at hnx
            have HNX := Lib.hid hnx
            clear hnx hd hx hxi hb1
            cases b1 with
            | false =>
              cases d with
              | false =>
                go_wp2_with fail
                exact ⟨⟨i + 1, by omega, by go_num, by rw [HNX.out]; rfl, trivial⟩, by first | (simp [intOf]; done) | (simp [intOf]; omega)⟩
              | true =>
                go_wp2_with fail
                exact ⟨⟨i + 1, by omega, by go_num, by rw [HNX.out]; rfl, trivial⟩, by first | (simp [intOf]; done) | (simp [intOf]; omega)⟩
            | true =>
              go_wp2_with fail
              exact ⟨⟨i + 1, by omega, by go_num, by rw [HNX.out]; rfl, trivial⟩, by first | (simp [intOf]; done) | (simp [intOf]; omega)⟩
          · skip
            have hin1 : ¬ (i : Int) < (n1 : Int) := by omega
            rw [hasB_all f (tokOf s) i (by rw [hn1]; exact hin)] at hb1
            have HB1 := Lib.hid hb1
            clear hb1 hi hin
            go_wp2_with fail
            refine (tokens_n f w2 (by omega)).mono ?_
            rintro e w3 ⟨A2, n2, c2, rfl, hn2, hc2, hC2, hB⟩
            have HB3 := Lib.hid (below_then HB2.out HB2.out.size hB)
            have H1 := Lib.hid (Kd.C_below H1.out hB)
            clear hB
            have H2 := Lib.hid hC2
            clear hC2
            have hrp := fun w => replace_n s f t w (by omega) (by omega)
            obtain ⟨a, ha⟩ : ∃ a, a = replB s f t := ⟨_, rfl⟩
            rw [← ha] at hrp
            have HRP := Lib.hid hrp
            have HA := Lib.hid ha
            have hq := beq_str a s
            obtain ⟨d, hd⟩ : ∃ d, d = decide (a = s) := ⟨_, rfl⟩
            rw [← hd] at hq
            have HD := Lib.hid hd
            have hq2 := beq_str f t
            obtain ⟨d2, hd2⟩ : ∃ d, d = decide (f = t) := ⟨_, rfl⟩
            rw [← hd2] at hq2
            have HD2 := Lib.hid hd2
            have HQ := Lib.hid hq
            have HQ2 := Lib.hid hq2
            clear hrp ha hd hd2 hq hq2
            cases tf with
            | false =>
              go_wp2_with fail
              refine (HK.out w3).mono ?_
              rintro e w4 ⟨rfl, hB⟩
              have HB4 := Lib.hid (below_then HB3.out HB3.out.size hB)
              have H1 := Lib.hid (Kd.C_below H1.out hB)
              have H2 := Lib.hid (Kd.C_below H2.out hB)
              clear hB
              by_cases hl : 1 < n2
              · have hl1 : (1 : Int) < (n2 : Int) := by omega
                go_wp2_with fail
                refine (HK.out w4).mono ?_
                rintro e w5 ⟨rfl, hB⟩
                have HB5 := Lib.hid (below_then HB4.out HB4.out.size hB)
                have H1 := Lib.hid (Kd.C_below H1.out hB)
                have H2 := Lib.hid (Kd.C_below H2.out hB)
                clear hB
                go_wp2_with fail
                refine (HRP.out w5).mono ?_
                rintro e w6 ⟨rfl, hB⟩
                have HB6 := Lib.hid (below_then HB5.out HB5.out.size hB)
                have H1 := Lib.hid (Kd.C_below H1.out hB)
                have H2 := Lib.hid (Kd.C_below H2.out hB)
                clear hB
                cases b1 with
                | false =>
                  have h1 : d = true := by rw [HD.out, HA.out, repl_not s f t (fun h => absurd ((hasB_iff f (tokOf s)).2 h) (by rw [← HB1.out]; simp))]; simp
                  subst h1
                  have hq := HQ.out
                  go_wp2_with fail
                  go_ret
                  exact ⟨by simp [hq], HB6.out⟩
                | true =>
                  go_wp2_with fail
                  refine (HK.out w6).mono ?_
                  rintro e w7 ⟨rfl, hB⟩
                  have HB7 := Lib.hid (below_then HB6.out HB6.out.size hB)
                  have H1 := Lib.hid (Kd.C_below H1.out hB)
                  have H2 := Lib.hid (Kd.C_below H2.out hB)
                  clear hB
                  have h1 : d = true := by rw [HD.out, HA.out, repl_not s f t (fun h => HTF.out)]; simp
                  subst h1
                  have hq := HQ.out
                  go_wp2_with fail
                  go_ret
                  exact ⟨by simp [hq], HB7.out⟩
              · have hl1 : ¬ (1 : Int) < (n2 : Int) := by omega
                go_wp2_with fail
                refine (HRP.out w4).mono ?_
                rintro e w5 ⟨rfl, hB⟩
                have HB5 := Lib.hid (below_then HB4.out HB4.out.size hB)
                have H1 := Lib.hid (Kd.C_below H1.out hB)
                have H2 := Lib.hid (Kd.C_below H2.out hB)
                clear hB
                cases b1 with
                | false =>
                  have h1 : d = true := by rw [HD.out, HA.out, repl_not s f t (fun h => absurd ((hasB_iff f (tokOf s)).2 h) (by rw [← HB1.out]; simp))]; simp
                  subst h1
                  have hq := HQ.out
                  go_wp2_with fail
                  go_ret
                  exact ⟨by simp [hq], HB5.out⟩
                | true =>
                  go_wp2_with fail
                  refine (HK.out w5).mono ?_
                  rintro e w6 ⟨rfl, hB⟩
                  have HB6 := Lib.hid (below_then HB5.out HB5.out.size hB)
                  have H1 := Lib.hid (Kd.C_below H1.out hB)
                  have H2 := Lib.hid (Kd.C_below H2.out hB)
                  clear hB
                  have h1 : d = true := by rw [HD.out, HA.out, repl_not s f t (fun h => HTF.out)]; simp
                  subst h1
                  have hq := HQ.out
                  go_wp2_with fail
                  go_ret
                  exact ⟨by simp [hq], HB6.out⟩
            | true =>
              have h2 := H2.out
              rw [tok_one f HTF.out] at hn2 h2
              obtain rfl : n2 = 1 := hn2.symm
              have H2 := Lib.hid h2
              clear h2 hn2
              go_wp2_with fail
              refine (HK.out w3).mono ?_
              rintro e w4 ⟨rfl, hB⟩
              have HB4 := Lib.hid (below_then HB3.out HB3.out.size hB)
              have H1 := Lib.hid (Kd.C_below H1.out hB)
              have H2 := Lib.hid (Kd.C_below H2.out hB)
              clear hB
              obtain ⟨ad2, rfl, ca2⟩ := Kd.at_string H2.out 0 (by decide) (by decide)
              have ca3 : w4.cell? ad2 = some (.string f) := ca2
              have hff : (f.toList == f.toList) = true := by simp
              clear ca2
              go_wp2_with fail
              refine (HRP.out w4).mono ?_
              rintro e w5 ⟨rfl, hB⟩
              have HB5 := Lib.hid (below_then HB4.out HB4.out.size hB)
              have H1 := Lib.hid (Kd.C_below H1.out hB)
              have H2 := Lib.hid (Kd.C_below H2.out hB)
              clear hB
              cases b1 with
              | false =>
                have h1 : d = true := by rw [HD.out, HA.out, repl_not s f t (fun h => absurd ((hasB_iff f (tokOf s)).2 h) (by rw [← HB1.out]; simp))]; simp
                subst h1
                have hq := HQ.out
                go_wp2_with fail
                go_ret
                exact ⟨by simp [hq], HB5.out⟩
              | true =>
                go_wp2_with fail
                refine (HK.out w5).mono ?_
                rintro e w6 ⟨rfl, hB⟩
                have HB6 := Lib.hid (below_then HB5.out HB5.out.size hB)
                have H1 := Lib.hid (Kd.C_below H1.out hB)
                have H2 := Lib.hid (Kd.C_below H2.out hB)
                clear hB
                cases d with
                | false =>
                  have hq := HQ.out
                  go_wp2_with fail
                  go_ret
                  exact ⟨by simp [hq], HB6.out⟩
                | true =>
                  have h2 : d2 = true := by
                    rw [HD2.out, decide_eq_true_iff]
                    exact repl_moves s f t ((hasB_iff f (tokOf s)).1 HB1.out.symm) HTF.out (by rw [← HA.out]; exact of_decide_eq_true HD.out.symm)
                  subst h2
                  have hq := HQ.out
                  have hq2 := HQ2.out
                  go_wp2_with fail
                  go_ret
                  exact ⟨by simp [hq, hq2], HB6.out⟩
set_option maxRecDepth 100000 in
set_option maxHeartbeats 16000000 in
theorem tokens_law (w : World) (s : ByteArray) (hs : s.size ≤ 140737488351232) (f : ByteArray) (hf : f.size ≤ 140737488351232) (t : ByteArray) (ht : t.size ≤ 140737488351232) (hm : Cell0 w) :
    Calls Tryd.prog 4 #[.string s, .string f, .string t] w fun e w' => e = .returned (.bool true) ∧ Below w.heap.size w w' := by
  have HM := Lib.hid hm
  clear hm
  go_enter Tryd.func4, Tryd.ntmps4
  go_wp2_with fail
  refine (head_any w HM.out).mono ?_
  rintro e w1 ⟨rfl, hB⟩
  have HB1 := Lib.hid hB
  clear hB
  by_cases bs : 20000 < s.size
  · have bs' : (20000 : Int) < (s.size : Int) := by omega
    go_wp2_with fail
    go_ret
    exact ⟨by simp, HB1.out⟩
  · have bs' : ¬ (20000 : Int) < (s.size : Int) := by omega
    by_cases bf : 100 < f.size
    · have bf' : (100 : Int) < (f.size : Int) := by omega
      go_wp2_with fail
      go_ret
      exact ⟨by simp, HB1.out⟩
    · have bf' : ¬ (100 : Int) < (f.size : Int) := by omega
      by_cases bt : 100 < t.size
      · have bt' : (100 : Int) < (t.size : Int) := by omega
        go_wp2_with fail
        go_ret
        exact ⟨by simp, HB1.out⟩
      · have bt' : ¬ (100 : Int) < (t.size : Int) := by omega
        have hf := fun w => token_n f w (by omega)
        have ht := fun w => token_n t w (by omega)
        obtain ⟨tf, htf⟩ : ∃ c, c = tokenB (bl f) := ⟨_, rfl⟩
        obtain ⟨tt, htt⟩ : ∃ c, c = tokenB (bl t) := ⟨_, rfl⟩
        rw [← htf] at hf
        rw [← htt] at ht
        have HKF := Lib.hid hf
        have HKT := Lib.hid ht
        have HTF := Lib.hid htf.symm
        have HTT := Lib.hid htt.symm
        clear hf ht htf htt
        have hr1 := fun w => replace_n s f f w (by omega) (by omega)
        rw [repl_self] at hr1
        have HR1 := Lib.hid hr1
        clear hr1
        go_wp2_with fail
        refine (HR1.out w1).mono ?_
        rintro e w2 ⟨rfl, hB⟩
        have HB2 := Lib.hid (below_then HB1.out HB1.out.size hB)
        clear hB
        go_wp2_with fail
        refine (HKF.out w2).mono ?_
        rintro e w3 ⟨rfl, hB⟩
        have HB3 := Lib.hid (below_then HB2.out HB2.out.size hB)
        clear hB
        cases tf with
        | false =>
          go_wp2_with fail
          go_ret
          exact ⟨by simp, HB3.out⟩
        | true =>
          go_wp2_with fail
          refine (HKT.out w3).mono ?_
          rintro e w4 ⟨rfl, hB⟩
          have HB4 := Lib.hid (below_then HB3.out HB3.out.size hB)
          clear hB
          cases tt with
          | false =>
            go_wp2_with fail
            go_ret
            exact ⟨by simp, HB4.out⟩
          | true =>
            obtain ⟨d2, hd2⟩ : ∃ d, d = decide (f = t) := ⟨_, rfl⟩
            have HD2 := Lib.hid hd2
            clear hd2
            cases d2 with
            | false =>
              have hft : f ≠ t := of_decide_eq_false HD2.out.symm
              have hrp := fun w => replace_n s f t w (by omega) (by omega)
              have hsz := repl_size s f t
              have hmul : s.size * t.size ≤ 20000 * 100 := Nat.mul_le_mul (by omega) (by omega)
              have hgone := tok_gone s f t HTF.out HTT.out hft
              have hlen := tok_len s f t HTT.out
              have hback := repl_back s f t HTT.out
              obtain ⟨a, ha⟩ : ∃ a, a = replB s f t := ⟨_, rfl⟩
              rw [← ha] at hrp hsz hgone hlen hback
              have HRP := Lib.hid hrp
              have HG := Lib.hid hgone
              have HLEN := Lib.hid hlen
              have HBACK := Lib.hid hback
              have hasz : a.size ≤ 10000000 := by omega
              have hq2 := beq_str f t
              rw [← HD2.out] at hq2
              clear hrp hsz hmul hgone hlen hback ha hft
              go_wp2_with fail
              refine (HRP.out w4).mono ?_
              rintro e w5 ⟨rfl, hB⟩
              have HB5 := Lib.hid (below_then HB4.out HB4.out.size hB)
              clear hB
              go_wp2_with fail
              refine (tokens_n s w5 (by omega)).mono ?_
              rintro e w6 ⟨A1, n1, c1, rfl, hn1, hc1, hC1, hB⟩
              have HB6 := Lib.hid (below_then HB5.out HB5.out.size hB)
              clear hB
              have H1 := Lib.hid hC1
              clear hC1
              have hz1 := tokOf_len s
              rw [hn1] at hz1
              go_wp2_with fail
              go_loopw [10, 11] (fun vb vi wr => ∃ i : Nat, i ≤ n1 ∧ vi = .int .i64 (i : Int) ∧ vb = .bool (hasB t ((tokOf s).take i)) ∧ wr = w6) (fun _ vi _ => n1 - (intOf vi).toNat)
              case atStart => exact ⟨0, Nat.zero_le _, rfl, rfl, rfl⟩
              case round =>
                obtain ⟨i, hi, rfl, rfl, hw⟩ := hrel
                have hw2 := hw.symm
                clear hw
                subst hw2
                obtain ⟨b1, hb1⟩ : ∃ b, b = hasB t ((tokOf s).take i) := ⟨_, rfl⟩
                rw [← hb1]
                by_cases hin : i < n1
                · skip
                  have hin1 : (i : Int) < (n1 : Int) := by omega
                  have hi0 : (0 : Int) ≤ (i : Int) := by omega
                  have hxi : i < (tokOf s).length := by rw [hn1]; exact hin
                  obtain ⟨ad, rfl, ca1⟩ := Kd.at_string H1.out (i : Int) hi0 hin1
                  rw [rdOf_nat _ _ _ hxi, Int.toNat_natCast] at ca1
                  have hnx := hasB_next t (tokOf s) i hxi
                  obtain ⟨x, hx⟩ : ∃ x, x = (tokOf s)[i]'hxi := ⟨_, rfl⟩
                  rw [← hx] at ca1 hnx
                  have hq := beq_str x t
                  obtain ⟨d, hd⟩ : ∃ d, d = decide (x = t) := ⟨_, rfl⟩
                  rw [← hd] at hnx hq
                  rw [← hb1] at hnx
                  have HNX := Lib.hid hnx
                  clear hnx hd hx hxi hb1
                  cases b1 with
                  | false =>
                    cases d with
                    | false =>
                      go_wp2_with fail
                      exact ⟨⟨i + 1, by omega, by go_num, by rw [HNX.out]; rfl, trivial⟩, by first | (simp [intOf]; done) | (simp [intOf]; omega)⟩
                    | true =>
                      go_wp2_with fail
                      exact ⟨⟨i + 1, by omega, by go_num, by rw [HNX.out]; rfl, trivial⟩, by first | (simp [intOf]; done) | (simp [intOf]; omega)⟩
                  | true =>
                    go_wp2_with fail
                    exact ⟨⟨i + 1, by omega, by go_num, by rw [HNX.out]; rfl, trivial⟩, by first | (simp [intOf]; done) | (simp [intOf]; omega)⟩
                · skip
                  have hin1 : ¬ (i : Int) < (n1 : Int) := by omega
                  rw [hasB_all t (tokOf s) i (by rw [hn1]; exact hin)] at hb1
                  have HB1 := Lib.hid hb1
                  clear hb1 hi hin
                  go_wp2_with fail
                  refine (tokens_n a w6 (by omega)).mono ?_
                  rintro e w7 ⟨A2, n2, c2, rfl, hn2, hc2, hC2, hB⟩
                  have HB7 := Lib.hid (below_then HB6.out HB6.out.size hB)
                  have H1 := Lib.hid (Kd.C_below H1.out hB)
                  clear hB
                  have H2 := Lib.hid hC2
                  clear hC2
                  have hz2 := tokOf_len a
                  rw [hn2] at hz2
                  have hnn : n2 = n1 := by rw [← hn2, ← hn1, HLEN.out]
                  have HNN := Lib.hid hnn
                  clear hnn
                  go_wp2_with fail
                  go_loopw [13] (fun vi wr => ∃ i : Nat, i ≤ n2 ∧ vi = .int .i64 (i : Int) ∧ wr = w7) (fun vi _ => n2 - (intOf vi).toNat)
                  case atStart => exact ⟨0, Nat.zero_le _, rfl, rfl⟩
                  case round =>
                    obtain ⟨i, hi, rfl, hw⟩ := hrel
                    have hw2 := hw.symm
                    clear hw
                    subst hw2
                    by_cases hin : i < n2
                    · skip
                      have hin1 : (i : Int) < (n2 : Int) := by omega
                      have hi0 : (0 : Int) ≤ (i : Int) := by omega
                      have hxi : i < (tokOf a).length := by rw [hn2]; exact hin
                      obtain ⟨ad, rfl, ca1⟩ := Kd.at_string H2.out (i : Int) hi0 hin1
                      rw [rdOf_nat _ _ _ hxi, Int.toNat_natCast] at ca1
                      have hne := HG.out _ (List.getElem_mem hxi)
                      obtain ⟨x, hx⟩ : ∃ x, x = (tokOf a)[i]'hxi := ⟨_, rfl⟩
                      rw [← hx] at ca1 hne
                      have hq : (x.toList == f.toList) = false := by rw [beq_str]; exact decide_eq_false hne
                      clear hne hx hxi
                      go_wp2_with fail
                      exact ⟨⟨i + 1, by omega, by go_num, trivial⟩, by first | (simp [intOf]; done) | (simp [intOf]; omega)⟩
                    · skip
                      have hin1 : ¬ (i : Int) < (n2 : Int) := by omega
                      clear hi hin
                      obtain rfl := HNN.out
                      clear HNN hz1 hz2
                      cases b1 with
                      | false =>
                        have hb2 := HBACK.out (fun h => absurd ((hasB_iff t (tokOf s)).2 h) (by rw [← HB1.out]; simp))
                        have hr2 := fun w => replace_n a t f w (by omega) (by omega)
                        rw [hb2] at hr2
                        have HR2 := Lib.hid hr2
                        clear hr2 hb2
                        go_wp2_with fail
                        refine (HR2.out w7).mono ?_
                        rintro e w8 ⟨rfl, hB⟩
                        have HB8 := Lib.hid (below_then HB7.out HB7.out.size hB)
                        have H1 := Lib.hid (Kd.C_below H1.out hB)
                        have H2 := Lib.hid (Kd.C_below H2.out hB)
                        clear hB
                        go_wp2_with fail
                        go_ret
                        exact ⟨by simp, HB8.out⟩
                      | true =>
                        go_wp2_with fail
                        go_ret
                        exact ⟨by simp, HB7.out⟩
            | true =>
              have hq2 := beq_str f t
              rw [← HD2.out] at hq2
              go_wp2_with fail
              go_ret
              exact ⟨by simp, HB4.out⟩
end Go.Proofs.YtmhpnidhokcaeaaDoor
