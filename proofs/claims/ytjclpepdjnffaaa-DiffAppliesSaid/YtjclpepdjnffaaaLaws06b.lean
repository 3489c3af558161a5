/- DiffApplies' contract. -/
import Derived.Test.YtjclpepdjnffaaaLaws06
set_option linter.unusedVariables false
set_option linter.unusedSimpArgs false
namespace Go.Proofs.Ytjclpepdjnffaaa
open Go.RowKit Go.Proofs.YtjclpepdjnffaaaW.PrintWords Go.Proofs.YtjclpepdjnffaaaW.PrintLast Go.Proofs.Ytjclpepdjnffaaa.PDiffTells

set_option maxRecDepth 100000 in
set_option maxHeartbeats 16000000 in
theorem applies_law (w : World) (xa : List ByteArray) (Aa : Option Addr) (na ca : Nat) (ha : (Kd.slice 9 Kd.string).K w xa [.slice Aa na ca]) (ga0 : goodL xa) (xb : List ByteArray) (Ab : Option Addr) (nb cb : Nat) (hb : (Kd.slice 9 Kd.string).K w xb [.slice Ab nb cb]) (gb0 : goodL xb) (xo : List ByteArray) (Ao : Option Addr) (no co : Nat) (ho : (Kd.slice 9 Kd.string).K w xo [.slice Ao no co]) (go0 : goodL xo) (xt : List ByteArray) (At : Option Addr) (nt ct : Nat) (ht : (Kd.slice 9 Kd.string).K w xt [.slice At nt ct]) (gt0 : goodL xt) :
    Calls Try.prog 8 #[.slice Aa na ca, .slice Ab nb cb, .slice Ao no co, .slice At nt ct] w fun e w' => e = .returned (.bool true) ∧ Below w.heap.size w w' := by
  obtain ⟨rfl, hca, hCa⟩ := lines_open ha
  have ga := goodL_lt ga0
  have HCa := Lib.hid hCa
  obtain ⟨na, hna⟩ : ∃ n, n = xa.length := ⟨_, rfl⟩
  rw [← hna] at hca ga HCa ⊢
  have HLa := Lib.hid hna.symm
  clear ha ga0 hCa hna
  obtain ⟨rfl, hcb, hCb⟩ := lines_open hb
  have gb := goodL_lt gb0
  have HCb := Lib.hid hCb
  obtain ⟨nb, hnb⟩ : ∃ n, n = xb.length := ⟨_, rfl⟩
  rw [← hnb] at hcb gb HCb ⊢
  have HLb := Lib.hid hnb.symm
  clear hb gb0 hCb hnb
  obtain ⟨rfl, hco, hCo⟩ := lines_open ho
  have go := goodL_lt go0
  have HCo := Lib.hid hCo
  obtain ⟨no, hno⟩ : ∃ n, n = xo.length := ⟨_, rfl⟩
  rw [← hno] at hco go HCo ⊢
  have HLo := Lib.hid hno.symm
  clear ho go0 hCo hno
  obtain ⟨rfl, hct, hCt⟩ := lines_open ht
  have gt := goodL_lt gt0
  have HCt := Lib.hid hCt
  obtain ⟨nt, hnt⟩ : ∃ n, n = xt.length := ⟨_, rfl⟩
  rw [← hnt] at hct gt HCt ⊢
  have HLt := Lib.hid hnt.symm
  clear ht gt0 hCt hnt
  go_enter Try.func8, Try.ntmps8
  go_wp2_with fail
  refine (head_any w).mono ?_
  rintro e w1 ⟨rfl, hB⟩
  have HB1 := Lib.hid hB
  clear hB
  go_wp2_with fail
  obtain ⟨r, hr, hcall⟩ := great_n na nb ca cb xa xb Aa Ab w1 HLa.out HLb.out (Kd.C_below HCa.out HB1.out) hca (Kd.C_below HCb.out HB1.out) hcb ga gb
  refine hcall.mono ?_
  clear hcall
  rintro e w2 ⟨rfl, hB⟩
  have HB2 := Lib.hid (below_then HB1.out HB1.out.size hB)
  clear hB HB1
  cases r with
  | true =>
    clear hr
    go_wp2_with fail
    go_ret
    exact ⟨rfl, HB2.out⟩
  | false =>
    obtain ⟨ba, bb⟩ := hr rfl
    clear hr
    go_wp2_with fail
    obtain ⟨r, hr, hcall⟩ := great_n no nt co ct xo xt Ao At w2 HLo.out HLt.out (Kd.C_below HCo.out HB2.out) hco (Kd.C_below HCt.out HB2.out) hct go gt
    refine hcall.mono ?_
    clear hcall
    rintro e w3 ⟨rfl, hB⟩
    have HB3 := Lib.hid (below_then HB2.out HB2.out.size hB)
    clear hB HB2
    cases r with
    | true =>
      clear hr
      go_wp2_with fail
      go_ret
      exact ⟨rfl, HB3.out⟩
    | false =>
      obtain ⟨bc, bd⟩ := hr rfl
      clear hr
      have hj1 : Below w.heap.size w (w3.alloc (.cells #[] 9)) := HB3.out.alloc HB3.out.size _
      have HJ1 := Lib.hid hj1
      have hs1 := HB3.out.size
      clear hj1
      go_wp2_with (at_builtin; refine Kd.R_append_rows (w0 := w) (W := w3.alloc (.cells #[] 9)) Kd.string (Rr := fun x cs => cs = [.string x]) w.heap.size rfl _ _ 22 9 (.string ⟨#[]⟩) 16 rfl Try.underlying22 infoS rfl (by decide) (by decide) (.slice (some ⟨w3.heap.size, 0, none⟩) 0 0) [] xa Aa na ca (fun _ => True) (fun _ => False) rfl rfl (str_made w3 _ hs1) (Kd.C_below HCa.out HJ1.out) (fun x cs h => h) (fun _ h => h.elim) (fun _ _ => trivial) HJ1.out HJ1.out.size (by simp; omega) ?_)
      intro v1 wa1 hR1 hB2 _ _
      have hR1' : Kd.string.R 9 wa1 w.heap.size (fun _ => True) v1 xa := by simpa using hR1
      obtain ⟨Aa1, ca1, rfl, _, _, _⟩ := R_addr hR1'
      rw [HLa.out] at hR1' ⊢
      have HRA1 := Lib.hid hR1'
      have HBA1 := Lib.hid hB2
      clear hR1 hR1' hB2 HJ1
      go_wp2_with (at_builtin; refine Kd.R_append_rows (w0 := w) (W := wa1) Kd.string (Rr := fun x cs => cs = [.string x]) w.heap.size rfl _ _ 22 9 (.string ⟨#[]⟩) 16 rfl Try.underlying22 infoS rfl (by decide) (by decide) (.slice Aa1 na ca1) xa xo Ao no co (fun _ => True) (fun _ => False) rfl rfl HRA1.out (Kd.C_below HCo.out HBA1.out) (fun x cs h => h) (fun _ h => h.elim) (fun _ _ => trivial) HBA1.out HBA1.out.size (by rw [HLa.out]; omega) ?_)
      intro v2 wb1 hR2 hB3 _ _
      obtain ⟨Ab1, cb1, rfl, _, _, _⟩ := R_addr hR2
      have hl1 : (xa ++ xo).length = na + no := by rw [List.length_append, HLa.out, HLo.out]
      rw [hl1] at hR2 ⊢
      have HLB1 := Lib.hid hl1
      have HRB1 := Lib.hid hR2
      have HBB1 := Lib.hid hB3
      clear hR2 hB3 hl1 HRA1
      go_wp2_with (at_builtin; refine Kd.R_append_rows (w0 := w) (W := wb1) Kd.string (Rr := fun x cs => cs = [.string x]) w.heap.size rfl _ _ 22 9 (.string ⟨#[]⟩) 16 rfl Try.underlying22 infoS rfl (by decide) (by decide) (.slice Ab1 (na + no) cb1) (xa ++ xo) xb Ab nb cb (fun _ => True) (fun _ => False) rfl rfl HRB1.out (Kd.C_below HCb.out HBB1.out) (fun x cs h => h) (fun _ h => h.elim) (fun _ _ => trivial) HBB1.out HBB1.out.size (by rw [HLB1.out]; omega) ?_)
      intro v3 w4 hR3 hB4 _ _
      have hR3' : Kd.string.R 9 w4 w.heap.size (fun _ => True) v3 (xa ++ xo ++ xb) := by simpa using hR3
      obtain ⟨Ac1, cc1, rfl, hcc1, hCc1, _⟩ := R_addr hR3'
      have hl1 : (xa ++ xo ++ xb).length = na + no + nb := by rw [List.length_append, HLB1.out, HLb.out]
      rw [hl1] at hcc1 hCc1
      have hl1' : (xa ++ (xo ++ xb)).length = na + no + nb := by rw [← List.append_assoc]; exact hl1
      first
        | rw [hl1]
        | rw [hl1']
      generalize hne1 : na + no + nb = m1 at *
      have HM1 := Lib.hid (And.intro hl1 hne1.symm)
      have HC1 := Lib.hid hCc1
      have HB1 := Lib.hid hB4
      clear hR3 hR3' hB4 hl1 hl1' hne1 hCc1 HRB1 HLB1 HBA1 HBB1
      clear HB3
      have hm1 : m1 ≤ 600 := by have := HM1.out.2; omega
      have hap : appliedI (xa ++ xo ++ xb) (na : Int) xo xt = some (xa ++ xt ++ xb) := by
        rw [appliedI_nat]
        exact applied_at xa xb ⟨na, xo, xt⟩ HLa.out
      have hap2 : appliedI (xa ++ xo ++ xb) ((m1 : Int) + 1) [] xt = none := by
        rw [show ((m1 : Int) + 1) = ((m1 + 1 : Nat) : Int) by omega, appliedI_nat]
        exact applied_far _ _ _ _ (by rw [HM1.out.1]; simp)
      have hap3 : appliedI (xa ++ xo ++ xb) (-1) [] xt = none := appliedI_low _ _ _ _ (by decide)
      have hap4 : appliedI (xa ++ xo ++ xb) (m1 : Int) [] xt = some ((xa ++ xo ++ xb) ++ xt) := by
        rw [appliedI_nat]
        have := applied_at (xa ++ xo ++ xb) [] ⟨m1, [], xt⟩ HM1.out.1
        simpa using this
      have HAP := Lib.hid (And.intro hap (And.intro hap2 (And.intro hap3 hap4)))
      clear hap hap2 hap3 hap4
      go_wp2_with fail
      refine (apply_n m1 no nt cc1 co ct w4 Ac1 Ao At (xa ++ xo ++ xb) xo xt (na : Int) HM1.out.1 HLo.out HLt.out HC1.out hcc1 (Kd.C_below HCo.out HB1.out) hco (Kd.C_below HCt.out HB1.out) hct (by omega) (by omega) (by omega)).mono ?_
      rw [HAP.out.1]
      rintro e w5 ⟨v, rfl, hR, hB⟩
      obtain ⟨Ax, cx, rfl, hcx, hCx, _⟩ := R_addr hR
      have HL5 := Lib.hid (Kd.C_below HC1.out hB)
      have HB5 := Lib.hid (below_then HB1.out HB1.out.size hB)
      have hsel : ((some (xa ++ xt ++ xb) : Option (List ByteArray)).getD []).length = na + nt + nb := by
        show (xa ++ xt ++ xb).length = _
        rw [List.length_append, List.length_append, HLa.out, HLt.out, HLb.out]
      have hcx' : na + nt + nb ≤ cx := by rw [← hsel]; exact hcx
      have hCx' : Kd.string.C w5 Ax (na + nt + nb) (xa ++ xt ++ xb) := by have := hCx; rw [hsel] at this; exact this
      rw [hsel]
      have HMXB := Lib.hid (show na + nt + nb ≤ 600 by omega)
      generalize hmx : na + nt + nb = mx at *
      have HMX := Lib.hid (show (xa ++ xt ++ xb).length = mx from hsel)
      have HX5 := Lib.hid hCx'
      have HMXE := Lib.hid hmx
      clear hB hR hcx hCx hCx' hsel hmx HC1 HB1
      have HCa5 := Lib.hid (Kd.C_below HCa.out HB5.out)
      have HCt5 := Lib.hid (Kd.C_below HCt.out HB5.out)
      have HCb5 := Lib.hid (Kd.C_below HCb.out HB5.out)
      have HBR := Lib.hid (Below.refl w5.heap.size w5)
      have hj2 : Below w5.heap.size w5 (w5.alloc (.cells #[] 9)) := HBR.out.alloc HBR.out.size _
      have HJ2 := Lib.hid hj2
      have hs2 := HBR.out.size
      clear hj2
      go_wp2_with (at_builtin; refine Kd.R_append_rows (w0 := w5) (W := w5.alloc (.cells #[] 9)) Kd.string (Rr := fun x cs => cs = [.string x]) w5.heap.size rfl _ _ 22 9 (.string ⟨#[]⟩) 16 rfl Try.underlying22 infoS rfl (by decide) (by decide) (.slice (some ⟨w5.heap.size, 0, none⟩) 0 0) [] xa Aa na ca (fun _ => True) (fun _ => False) rfl rfl (str_made w5 _ hs2) (Kd.C_below HCa5.out HJ2.out) (fun x cs h => h) (fun _ h => h.elim) (fun _ _ => trivial) HJ2.out HJ2.out.size (by simp; omega) ?_)
      intro v1 wa2 hR1 hB2 _ _
      have hR1' : Kd.string.R 9 wa2 w5.heap.size (fun _ => True) v1 xa := by simpa using hR1
      obtain ⟨Aa2, ca2, rfl, _, _, _⟩ := R_addr hR1'
      rw [HLa.out] at hR1' ⊢
      have HRA2 := Lib.hid hR1'
      have HBA2 := Lib.hid hB2
      clear hR1 hR1' hB2 HJ2
      go_wp2_with (at_builtin; refine Kd.R_append_rows (w0 := w5) (W := wa2) Kd.string (Rr := fun x cs => cs = [.string x]) w5.heap.size rfl _ _ 22 9 (.string ⟨#[]⟩) 16 rfl Try.underlying22 infoS rfl (by decide) (by decide) (.slice Aa2 na ca2) xa xt At nt ct (fun _ => True) (fun _ => False) rfl rfl HRA2.out (Kd.C_below HCt5.out HBA2.out) (fun x cs h => h) (fun _ h => h.elim) (fun _ _ => trivial) HBA2.out HBA2.out.size (by rw [HLa.out]; omega) ?_)
      intro v2 wb2 hR2 hB3 _ _
      obtain ⟨Ab2, cb2, rfl, _, _, _⟩ := R_addr hR2
      have hl2 : (xa ++ xt).length = na + nt := by rw [List.length_append, HLa.out, HLt.out]
      rw [hl2] at hR2 ⊢
      have HLB2 := Lib.hid hl2
      have HRB2 := Lib.hid hR2
      have HBB2 := Lib.hid hB3
      clear hR2 hB3 hl2 HRA2
      go_wp2_with (at_builtin; refine Kd.R_append_rows (w0 := w5) (W := wb2) Kd.string (Rr := fun x cs => cs = [.string x]) w5.heap.size rfl _ _ 22 9 (.string ⟨#[]⟩) 16 rfl Try.underlying22 infoS rfl (by decide) (by decide) (.slice Ab2 (na + nt) cb2) (xa ++ xt) xb Ab nb cb (fun _ => True) (fun _ => False) rfl rfl HRB2.out (Kd.C_below HCb5.out HBB2.out) (fun x cs h => h) (fun _ h => h.elim) (fun _ _ => trivial) HBB2.out HBB2.out.size (by rw [HLB2.out]; omega) ?_)
      intro v3 w6 hR3 hB4 _ _
      have hR3' : Kd.string.R 9 w6 w5.heap.size (fun _ => True) v3 (xa ++ xt ++ xb) := by simpa using hR3
      obtain ⟨Ac2, cc2, rfl, hcc2, hCc2, _⟩ := R_addr hR3'
      have hl2 : (xa ++ xt ++ xb).length = na + nt + nb := by rw [List.length_append, HLB2.out, HLb.out]
      rw [hl2] at hcc2 hCc2
      have hl2' : (xa ++ (xt ++ xb)).length = na + nt + nb := by rw [← List.append_assoc]; exact hl2
      first
        | rw [hl2]
        | rw [hl2']
      generalize hne2 : na + nt + nb = m2 at *
      have HM2 := Lib.hid (And.intro hl2 hne2.symm)
      have HC2 := Lib.hid hCc2
      have HB2 := Lib.hid hB4
      clear hR3 hR3' hB4 hl2 hl2' hne2 hCc2 HRB2 HLB2 HBA2 HBB2
      have HL6 := Lib.hid (Kd.C_below HL5.out HB2.out)
      have HX6 := Lib.hid (Kd.C_below HX5.out HB2.out)
      have HW6 := Lib.hid HC2.out
      have HB6 := Lib.hid (below_then HB5.out HB5.out.size HB2.out)
      have hm2 : m2 = mx := by have := HM2.out.2; have := HMXE.out; omega
      have HM2E := Lib.hid hm2
      clear hm2 HC2 HB2 HL5 HX5 HB5 HCa5 HCt5 HCb5 HBR
      go_wp2_with fail
      refine (apply_n m1 0 nt cc1 0 ct w6 Ac1 none At (xa ++ xo ++ xb) [] xt ((m1 : Int) + 1) HM1.out.1 rfl HLt.out HL6.out hcc1 (Kd.C_nil Kd.string _) (Nat.le_refl _) (Kd.C_below HCt.out HB6.out) hct (by omega) (by omega) (by omega)).mono ?_
      rw [HAP.out.2.1]
      rintro e w7 ⟨v, rfl, hR, hB⟩
      obtain ⟨Ay6, cy6, rfl, _, _, _⟩ := R_addr hR
      have HL7 := Lib.hid (Kd.C_below HL6.out hB)
      have HX7 := Lib.hid (Kd.C_below HX6.out hB)
      have HW7 := Lib.hid (Kd.C_below HW6.out hB)
      have HB7 := Lib.hid (below_then HB6.out HB6.out.size hB)
      clear hB hR HL6 HX6 HW6 HB6
      go_wp2_with fail
      refine (apply_n m1 0 nt cc1 0 ct w7 Ac1 none At (xa ++ xo ++ xb) [] xt (-1) HM1.out.1 rfl HLt.out HL7.out hcc1 (Kd.C_nil Kd.string _) (Nat.le_refl _) (Kd.C_below HCt.out HB7.out) hct (by omega) (by omega) (by omega)).mono ?_
      rw [HAP.out.2.2.1]
      rintro e w8 ⟨v, rfl, hR, hB⟩
      obtain ⟨Ay7, cy7, rfl, _, _, _⟩ := R_addr hR
      have HL8 := Lib.hid (Kd.C_below HL7.out hB)
      have HX8 := Lib.hid (Kd.C_below HX7.out hB)
      have HW8 := Lib.hid (Kd.C_below HW7.out hB)
      have HB8 := Lib.hid (below_then HB7.out HB7.out.size hB)
      clear hB hR HL7 HX7 HW7 HB7
      go_wp2_with fail
      refine (apply_n m1 0 nt cc1 0 ct w8 Ac1 none At (xa ++ xo ++ xb) [] xt (m1 : Int) HM1.out.1 rfl HLt.out HL8.out hcc1 (Kd.C_nil Kd.string _) (Nat.le_refl _) (Kd.C_below HCt.out HB8.out) hct (by omega) (by omega) (by omega)).mono ?_
      rw [HAP.out.2.2.2]
      rintro e w9 ⟨v, rfl, hR, hB⟩
      obtain ⟨Ay8, cy8, rfl, _, _, _⟩ := R_addr hR
      have HL9 := Lib.hid (Kd.C_below HL8.out hB)
      have HX9 := Lib.hid (Kd.C_below HX8.out hB)
      have HW9 := Lib.hid (Kd.C_below HW8.out hB)
      have HB9 := Lib.hid (below_then HB8.out HB8.out.size hB)
      clear hB hR HL8 HX8 HW8 HB8
      have hsel : ((some ((xa ++ xo ++ xb) ++ xt) : Option (List ByteArray)).getD []).length = m1 + nt := by
        show ((xa ++ xo ++ xb) ++ xt).length = _
        rw [List.length_append, HM1.out.1, HLt.out]
      rw [hsel]
      clear hsel
      have hfin : (((m1 + nt : Nat) : Int) == (m1 : Int) + (nt : Int)) = true := by rw [beq_iff_eq]; omega
      have hfin2 : ((m1 : Int) + (nt : Int) == (m1 : Int) + (nt : Int)) = true := by simp
      go_wp2_with fail
      refine (lsame_n mx m2 cx cc2 (xa ++ xt ++ xb) (xa ++ xt ++ xb) Ax Ac2 w9 HMX.out HM2.out.1 HX9.out hcx' HW9.out hcc2 (by have := HMXB.out; omega)).mono ?_
      rw [decide_eq_true rfl]
      rintro e wf ⟨rfl, hB⟩
      have HBF := Lib.hid (below_then HB9.out HB9.out.size hB)
      clear hB HB9
      go_wp2_with fail
      go_ret
      exact ⟨rfl, HBF.out⟩
end Go.Proofs.Ytjclpepdjnffaaa
