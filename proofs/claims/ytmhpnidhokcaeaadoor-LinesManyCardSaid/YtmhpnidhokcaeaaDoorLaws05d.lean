/- Chapter 05's statement LinesMany: its contract. -/
import Derived.Test.YtmhpnidhokcaeaaDoorLaws05
import Derived.Test.YtmhpnidhokcaeaaDoorLinesP
set_option linter.unusedVariables false
set_option linter.unusedSimpArgs false
namespace Go.Proofs.YtmhpnidhokcaeaaDoor
open Go Go.RowKit Go.Proofs.YtmhpnidhokcaeaaDoorW.PrintWords Go.Proofs.YtmhpnidhokcaeaaDoorW.PrintLast

theorem bl_append (a b : ByteArray) : bl (a ++ b) = bl a ++ bl b := by
  show (ByteArray.data (_ ++ _)).toList = _
  rw [ByteArray.data_append]
  simp
theorem split_done (s : ByteArray) : (splitOf s).2 = true ↔ (linesOf (bl s)).2 = [] := by
  unfold splitOf
  by_cases e : (linesOf (bl s)).2 = []
  · rw [if_pos e]
    simp [e]
  · rw [if_neg e]
    simp [e]
theorem split_open (a b : ByteArray) (h : (splitOf b).2 = false) : (splitOf (a ++ b)).2 = false := by
  have h0 : (linesOf (bl b)).2 ≠ [] := fun e => by rw [(split_done b).2 e] at h; cases h
  rw [Bool.eq_false_iff]
  intro h1
  have h2 := (split_done _).1 h1
  rw [bl_append] at h2
  have hb : bl b ≠ [] := fun e => by rw [e] at h0; exact h0 rfl
  obtain ⟨r, hr⟩ := linesOf_open (bl a ++ bl b) (by simp [hb]) h2
  cases hl : (bl b).reverse with
  | nil => exact hb (by simpa using hl)
  | cons c q =>
    have e : bl b = q.reverse ++ [c] := by
      have := congrArg List.reverse hl
      simpa using this
    rw [e, ← List.append_assoc] at hr
    have h3 := (List.append_inj' hr rfl).2
    rw [e, h3] at h0
    exact h0 (linesOf_end _)
theorem split_two (a b : ByteArray) (ha : (splitOf a).2 = true) (hb : (splitOf b).2 = true) : splitOf (a ++ b) = ((splitOf a).1 ++ (splitOf b).1, true) := by
  have h1 := (split_done a).1 ha
  have h2 := (split_done b).1 hb
  have ht := linesOf_text (bl a)
  rw [h1, List.append_nil] at ht
  have hl := linesOf_textOf (linesOf (bl a)).1 (linesOf_right (bl a)).1 (bl b)
  rw [ht] at hl
  unfold splitOf
  rw [bl_append, hl, if_pos h1, if_pos h2, if_pos h2]
  simp
def tens (s : ByteArray) (i : Nat) : Nat := ((bl s).take i).count 10
theorem tens_next (s : ByteArray) (i : Nat) (h : i < s.size) : tens s (i + 1) = tens s i + if s[i]'h = 10 then 1 else 0 := by
  obtain ⟨⟨l⟩⟩ := s
  have h' : i < l.length := h
  unfold tens
  show (l.take (i + 1)).count 10 = _
  rw [← List.take_append_getElem h', List.count_append]
  show _ = (l.take i).count 10 + if (l[i]'h') = 10 then 1 else 0
  congr 1
  rw [List.count_singleton]
  by_cases e : l[i]'h' = 10 <;> simp [e]
theorem tens_all (s : ByteArray) (i : Nat) (h : ¬ i < s.size) : tens s i = (bl s).count 10 := by
  unfold tens
  rw [List.take_of_length_le (by rw [bl_size]; omega)]
theorem tens_le (s : ByteArray) (i : Nat) : tens s i ≤ s.size := by
  unfold tens
  have h1 := List.count_le_length (a := (10 : UInt8)) (l := (bl s).take i)
  have h2 : ((bl s).take i).length ≤ (bl s).length := by rw [List.length_take]; omega
  rw [bl_size] at h2
  omega
theorem str_made (w : World) (base : Nat) (hb : base ≤ w.heap.size) : Kd.string.R 9 (w.alloc (.cells #[] 9)) base (fun _ => True) (.slice (some ⟨w.heap.size, 0, none⟩) 0 0) [] :=
  ⟨fun _ _ => trivial, [], World.ownsRow_made (base := base) (e := 9) (size := 1) w #[] 0 hb (by decide) rfl, Reps.none _ _⟩
theorem byte10 (b : UInt8) : ((b.toNat : Int) == 10) = decide (b = 10) := by
  rw [Bool.eq_iff_iff, beq_iff_eq, decide_eq_true_iff]
  constructor
  · intro h
    exact UInt8.toNat.inj (by show b.toNat = 10; omega)
  · rintro rfl
    rfl

set_option maxRecDepth 100000 in
set_option maxHeartbeats 16000000 in
theorem many_law (w : World) (a : ByteArray) (ha : a.size ≤ 140737488351232) (b : ByteArray) (hb : b.size ≤ 140737488351232) (hm : Cell0 w) :
    Calls Tryd.prog 5 #[.string a, .string b] w fun e w' => e = .returned (.bool true) ∧ Below w.heap.size w w' := by
  have HM := Lib.hid hm
  clear hm
  go_enter Tryd.func5, Tryd.ntmps5
  go_wp2_with fail
  refine (head_any w HM.out).mono ?_
  rintro e w1 ⟨rfl, hB⟩
  have HB1 := Lib.hid hB
  clear hB
  by_cases ba : 9000 < a.size
  · have ba' : (9000 : Int) < (a.size : Int) := by omega
    go_wp2_with fail
    go_ret
    exact ⟨by simp, HB1.out⟩
  · have ba' : ¬ (9000 : Int) < (a.size : Int) := by omega
    by_cases bb : 9000 < b.size
    · have bb' : (9000 : Int) < (b.size : Int) := by omega
      go_wp2_with fail
      go_ret
      exact ⟨by simp, HB1.out⟩
    · have bb' : ¬ (9000 : Int) < (b.size : Int) := by omega
      have hsp := fun w hm => split_n a w hm (by omega)
      obtain ⟨is, his⟩ : ∃ c, c = (splitOf a).2 := ⟨_, rfl⟩
      rw [← his] at hsp
      have HSP1 := Lib.hid hsp
      have HQ1 := Lib.hid his.symm
      clear hsp his
      have hsp := fun w hm => split_n b w hm (by omega)
      obtain ⟨it, hit⟩ : ∃ c, c = (splitOf b).2 := ⟨_, rfl⟩
      rw [← hit] at hsp
      have HSP2 := Lib.hid hsp
      have HQ2 := Lib.hid hit.symm
      clear hsp hit
      have hab : (a ++ b).size = a.size + b.size := ByteArray.size_append
      have hsp := fun w hm => split_n (a ++ b) w hm (by omega)
      obtain ⟨both, hboth⟩ : ∃ c, c = (splitOf (a ++ b)).2 := ⟨_, rfl⟩
      rw [← hboth] at hsp
      have HSP3 := Lib.hid hsp
      have HQ3 := Lib.hid hboth.symm
      clear hsp hboth
      have hsum : ¬ 9223372036854775807 < a.size + b.size := by omega
      go_wp2_with fail
      refine (HSP1.out w1 (HM.out.below HB1.out)).mono ?_
      rintro e w2 ⟨A1, n1, c1, rfl, hn1, hc1, hC1, hB⟩
      have HB2 := Lib.hid (below_then HB1.out HB1.out.size hB)
      clear hB
      have H1 := Lib.hid hC1
      clear hC1
      go_wp2_with fail
      refine (HSP2.out w2 (HM.out.below HB2.out)).mono ?_
      rintro e w3 ⟨A2, n2, c2, rfl, hn2, hc2, hC2, hB⟩
      have HB3 := Lib.hid (below_then HB2.out HB2.out.size hB)
      have H1 := Lib.hid (Kd.C_below H1.out hB)
      clear hB
      have H2 := Lib.hid hC2
      clear hC2
      go_wp2_with fail
      refine (HSP3.out w3 (HM.out.below HB3.out)).mono ?_
      rintro e w4 ⟨A3, n3, c3, rfl, hn3, hc3, hC3, hB⟩
      have HB4 := Lib.hid (below_then HB3.out HB3.out.size hB)
      have H1 := Lib.hid (Kd.C_below H1.out hB)
      have H2 := Lib.hid (Kd.C_below H2.out hB)
      clear hB
      have H3 := Lib.hid hC3
      clear hC3
      go_wp2_with fail
      go_loopw [12, 13] (fun vn vi wr => ∃ i : Nat, i ≤ a.size ∧ vi = .int .i64 (i : Int) ∧ vn = .int .i64 ((tens a i : Nat) : Int) ∧ wr = w4) (fun _ vi _ => a.size - (intOf vi).toNat)
      case atStart => exact ⟨0, Nat.zero_le _, rfl, rfl, rfl⟩
      case round =>
        obtain ⟨i, hi, rfl, rfl, hw⟩ := hrel
        have hw2 := hw.symm
        clear hw
        subst hw2
        have htl := tens_le a i
        by_cases hin : i < a.size
        · skip
          have hin1 : (i : Int) < (a.size : Int) := by omega
          have hi0 : (0 : Int) ≤ (i : Int) := by omega
          have hnx := tens_next a i hin
          have hq := byte10 (a[i]'hin)
          obtain ⟨d, hd⟩ : ∃ d, d = decide ((a[i]'hin) = 10) := ⟨_, rfl⟩
          rw [← hd] at hq
          have HNX := Lib.hid hnx
          have HD := Lib.hid hd
          obtain ⟨tn, htn⟩ : ∃ t, t = tens a i := ⟨_, rfl⟩
          rw [← htn] at htl ⊢
          have HTN := Lib.hid htn
          clear hnx hd htn
          cases d with
          | false =>
            go_wp2_with fail
            refine ⟨⟨i + 1, by omega, by go_num, ?_, trivial⟩, by first | (simp [intOf]; done) | (simp [intOf]; omega)⟩
            have hval : tens a (i + 1) = tn + 0 := by rw [HNX.out, ← HTN.out]; simp [of_decide_eq_false HD.out.symm]
            rw [hval]
            first | rfl | go_num | simp
          | true =>
            go_wp2_with fail
            refine ⟨⟨i + 1, by omega, by go_num, ?_, trivial⟩, by first | (simp [intOf]; done) | (simp [intOf]; omega)⟩
            have hval : tens a (i + 1) = tn + 1 := by rw [HNX.out, ← HTN.out]; simp [of_decide_eq_true HD.out.symm]
            rw [hval]
            first | rfl | go_num | simp
        · skip
          have hin1 : ¬ (i : Int) < (a.size : Int) := by omega
          rw [tens_all a i hin] at htl ⊢
          obtain ⟨tn, htn⟩ : ∃ t, t = (bl a).count 10 := ⟨_, rfl⟩
          rw [← htn] at htl ⊢
          have HTN := Lib.hid htn
          clear htn hi hin
          cases is with
          | false =>
            have e1 := (split_no a HQ1.out).1
            rw [e1] at hn1
            obtain rfl : n1 = 0 := hn1.symm
            cases it with
            | false =>
              have e3 := split_open a b HQ2.out
              rw [HQ3.out] at e3
              subst e3
              go_wp2_with fail
              go_ret
              exact ⟨by simp, HB4.out⟩
            | true =>
              go_wp2_with fail
              go_ret
              exact ⟨by simp, HB4.out⟩
          | true =>
            have e1 := (split_yes a HQ1.out).2.2
            obtain rfl : n1 = tn := by rw [← hn1, e1, HTN.out]
            clear e1
            cases it with
            | false =>
              have e3 := split_open a b HQ2.out
              rw [HQ3.out] at e3
              subst e3
              go_wp2_with fail
              go_ret
              exact ⟨by simp, HB4.out⟩
            | true =>
              have e3 := split_two a b HQ1.out HQ2.out
              have hb3 := congrArg Prod.snd e3
              rw [HQ3.out] at hb3
              subst hb3
              have hz2 : n2 ≤ 9000 := by have h5 := (split_yes b HQ2.out).2.2; have h6 := count_le b; omega
              obtain ⟨xa, hxa⟩ : ∃ x, x = (splitOf a).1 := ⟨_, rfl⟩
              obtain ⟨xb, hxb⟩ : ∃ x, x = (splitOf b).1 := ⟨_, rfl⟩
              have h1 := H1.out
              have h2 := H2.out
              have h3 := H3.out
              rw [e3, ← hxa, ← hxb] at hn3 h3
              rw [← hxa] at hn1 h1
              rw [← hxb] at hn2 h2
              have H1 := Lib.hid h1
              have H2 := Lib.hid h2
              have H3 := Lib.hid h3
              have HLa := Lib.hid hn1
              have HLb := Lib.hid hn2
              obtain rfl : n3 = n1 + n2 := by rw [← hn3, List.length_append, hn1, hn2]
              have HLc := Lib.hid hn3
              clear e3 h1 h2 h3 hxa hxb hn1 hn2 hn3
              have hj2 : Below w4.heap.size w4 (w4.alloc (.cells #[] 9)) := (Below.refl w4.heap.size w4).alloc (Nat.le_refl _) _
              have HJ2 := Lib.hid hj2
              clear hj2
              go_wp2_with (at_builtin; refine Kd.R_append_rows (w0 := w4) (W := w4.alloc (.cells #[] 9)) Kd.string (Rr := fun x cs => cs = [.string x]) w4.heap.size rfl _ _ 23 9 (.string ⟨#[]⟩) 16 rfl Tryd.underlying23 infoS rfl (by decide) (by decide) (.slice (some ⟨w4.heap.size, 0, none⟩) 0 0) [] xa A1 n1 c1 (fun _ => True) (fun _ => False) rfl rfl (str_made w4 _ (Nat.le_refl _)) (Kd.C_below H1.out HJ2.out) (fun x cs h => h) (fun _ h => h.elim) (fun _ _ => trivial) HJ2.out HJ2.out.size (by simp; omega) ?_)
              intro v1 wa hR1 hB2 _ _
              have hR1' : Kd.string.R 9 wa w4.heap.size (fun _ => True) v1 xa := by simpa using hR1
              obtain ⟨Aa2, ca2, rfl, _, _⟩ := Kd.R_reads hR1'
              rw [HLa.out] at hR1' ⊢
              have HRA2 := Lib.hid hR1'
              have HBA2 := Lib.hid hB2
              clear hR1 hR1' hB2 HJ2
              go_wp2_with (at_builtin; refine Kd.R_append_rows (w0 := w4) (W := wa) Kd.string (Rr := fun x cs => cs = [.string x]) w4.heap.size rfl _ _ 23 9 (.string ⟨#[]⟩) 16 rfl Tryd.underlying23 infoS rfl (by decide) (by decide) (.slice Aa2 n1 ca2) xa xb A2 n2 c2 (fun _ => True) (fun _ => False) rfl rfl HRA2.out (Kd.C_below H2.out HBA2.out) (fun x cs h => h) (fun _ h => h.elim) (fun _ _ => trivial) HBA2.out HBA2.out.size (by rw [HLa.out]; omega) ?_)
              intro v2 w5 hR2 hB _ _
              obtain ⟨Ab2, cb2, rfl, hcb2, hCb2⟩ := Kd.R_reads hR2
              rw [HLc.out] at hcb2 hCb2 ⊢
              have H4 := Lib.hid hCb2
              clear hR2 hCb2 HRA2 HBA2
              have HB5 := Lib.hid (below_then HB4.out HB4.out.size hB)
              have H3 := Lib.hid (Kd.C_below H3.out hB)
              clear hB
              have hsa := fun w h3 h4 => lsame_n (n1 + n2) (n1 + n2) c3 cb2 (xa ++ xb) (xa ++ xb) A3 Ab2 w HLc.out HLc.out h3 hc3 h4 hcb2 (by omega)
              rw [decide_eq_true rfl] at hsa
              have HSA := Lib.hid hsa
              clear hsa
              go_wp2_with fail
              refine (HSA.out w5 H3.out H4.out).mono ?_
              rintro e w6 ⟨rfl, hB⟩
              have HB6 := Lib.hid (below_then HB5.out HB5.out.size hB)
              have H3 := Lib.hid (Kd.C_below H3.out hB)
              clear hB
              go_wp2_with fail
              go_ret
              exact ⟨by simp, HB6.out⟩
end Go.Proofs.YtmhpnidhokcaeaaDoor
