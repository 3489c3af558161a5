/- DiffJoined's contract. -/
import Derived.Test.YtjclpepdjnffaaaLaws06
set_option linter.unusedVariables false
set_option linter.unusedSimpArgs false
namespace Go.Proofs.Ytjclpepdjnffaaa
open Go.RowKit Go.Proofs.YtjclpepdjnffaaaW.PrintWords Go.Proofs.YtjclpepdjnffaaaW.PrintLast Go.Proofs.Ytjclpepdjnffaaa.PDiffTells

theorem apartBy_joined (p q a b : List ByteArray) : apartBy (p ++ a ++ q) (p ++ b ++ q) = apartBy a b := by
  have h1 := apartBy_eq (p ++ a ++ q) (p ++ b ++ q)
  have h2 := apartBy_eq a b
  rw [lcs_joined] at h1
  simp only [List.length_append] at h1
  omega
set_option maxRecDepth 100000 in
set_option maxHeartbeats 16000000 in
theorem joined_law (w : World) (xa : List ByteArray) (Aa : Option Addr) (na ca : Nat) (ha : (Kd.slice 9 Kd.string).K w xa [.slice Aa na ca]) (ga0 : goodL xa) (xb : List ByteArray) (Ab : Option Addr) (nb cb : Nat) (hb : (Kd.slice 9 Kd.string).K w xb [.slice Ab nb cb]) (gb0 : goodL xb) (xp : List ByteArray) (Ap : Option Addr) (np cp : Nat) (hp : (Kd.slice 9 Kd.string).K w xp [.slice Ap np cp]) (gp0 : goodL xp) (xq : List ByteArray) (Aq : Option Addr) (nq cq : Nat) (hq : (Kd.slice 9 Kd.string).K w xq [.slice Aq nq cq]) (gq0 : goodL xq) :
    Calls Try.prog 7 #[.slice Aa na ca, .slice Ab nb cb, .slice Ap np cp, .slice Aq nq cq] w fun e w' => e = .returned (.bool true) ∧ Below w.heap.size w w' := by
  obtain ⟨rfl, hca, hCa⟩ := lines_open ha
  have ga := goodL_lt ga0
  have HCa := Lib.hid hCa
  obtain ⟨na, hna⟩ : ∃ n, n = xa.length := ⟨_, rfl⟩
  rw [← hna] at hca ga HCa ⊢
  have HLa := Lib.hid hna.symm
  clear ha ga0 hCa hna
  obtain ⟨rfl, hcb, hCb⟩ := lines_open hb
  have gb := goodL_lt gb0
  have HCb := Lib.hid hCb
  obtain ⟨nb, hnb⟩ : ∃ n, n = xb.length := ⟨_, rfl⟩
  rw [← hnb] at hcb gb HCb ⊢
  have HLb := Lib.hid hnb.symm
  clear hb gb0 hCb hnb
  obtain ⟨rfl, hcp, hCp⟩ := lines_open hp
  have gp := goodL_lt gp0
  have HCp := Lib.hid hCp
  obtain ⟨np, hnp⟩ : ∃ n, n = xp.length := ⟨_, rfl⟩
  rw [← hnp] at hcp gp HCp ⊢
  have HLp := Lib.hid hnp.symm
  clear hp gp0 hCp hnp
  obtain ⟨rfl, hcq, hCq⟩ := lines_open hq
  have gq := goodL_lt gq0
  have HCq := Lib.hid hCq
  obtain ⟨nq, hnq⟩ : ∃ n, n = xq.length := ⟨_, rfl⟩
  rw [← hnq] at hcq gq HCq ⊢
  have HLq := Lib.hid hnq.symm
  clear hq gq0 hCq hnq
  go_enter Try.func7, Try.ntmps7
  go_wp2_with fail
  refine (head_any w).mono ?_
  rintro e w1 ⟨rfl, hB⟩
  have HB1 := Lib.hid hB
  clear hB
  go_wp2_with fail
  obtain ⟨r, hr, hcall⟩ := great_n na nb ca cb xa xb Aa Ab w1 HLa.out HLb.out (Kd.C_below HCa.out HB1.out) hca (Kd.C_below HCb.out HB1.out) hcb ga gb
  refine hcall.mono ?_
  clear hcall
  rintro e w2 ⟨rfl, hB⟩
  have HB2 := Lib.hid (below_then HB1.out HB1.out.size hB)
  clear hB HB1
  cases r with
  | true =>
    clear hr
    go_wp2_with fail
    go_ret
    exact ⟨rfl, HB2.out⟩
  | false =>
    obtain ⟨ba, bb⟩ := hr rfl
    clear hr
    go_wp2_with fail
    obtain ⟨r, hr, hcall⟩ := great_n np nq cp cq xp xq Ap Aq w2 HLp.out HLq.out (Kd.C_below HCp.out HB2.out) hcp (Kd.C_below HCq.out HB2.out) hcq gp gq
    refine hcall.mono ?_
    clear hcall
    rintro e w3 ⟨rfl, hB⟩
    have HB3 := Lib.hid (below_then HB2.out HB2.out.size hB)
    clear hB HB2
    cases r with
    | true =>
      clear hr
      go_wp2_with fail
      go_ret
      exact ⟨rfl, HB3.out⟩
    | false =>
      obtain ⟨bc, bd⟩ := hr rfl
      clear hr
      have hj1 : Below w.heap.size w (w3.alloc (.cells #[] 9)) := HB3.out.alloc HB3.out.size _
      have HJ1 := Lib.hid hj1
      have hs1 := HB3.out.size
      clear hj1
      go_wp2_with (at_builtin; refine Kd.R_append_rows (w0 := w) (W := w3.alloc (.cells #[] 9)) Kd.string (Rr := fun x cs => cs = [.string x]) w.heap.size rfl _ _ 22 9 (.string ⟨#[]⟩) 16 rfl Try.underlying22 infoS rfl (by decide) (by decide) (.slice (some ⟨w3.heap.size, 0, none⟩) 0 0) [] xp Ap np cp (fun _ => True) (fun _ => False) rfl rfl (str_made w3 _ hs1) (Kd.C_below HCp.out HJ1.out) (fun x cs h => h) (fun _ h => h.elim) (fun _ _ => trivial) HJ1.out HJ1.out.size (by simp; omega) ?_)
      intro v1 wa1 hR1 hB2 _ _
      have hR1' : Kd.string.R 9 wa1 w.heap.size (fun _ => True) v1 xp := by simpa using hR1
      obtain ⟨Aa1, ca1, rfl, _, _, _⟩ := R_addr hR1'
      rw [HLp.out] at hR1' ⊢
      have HRA1 := Lib.hid hR1'
      have HBA1 := Lib.hid hB2
      clear hR1 hR1' hB2 HJ1
      go_wp2_with (at_builtin; refine Kd.R_append_rows (w0 := w) (W := wa1) Kd.string (Rr := fun x cs => cs = [.string x]) w.heap.size rfl _ _ 22 9 (.string ⟨#[]⟩) 16 rfl Try.underlying22 infoS rfl (by decide) (by decide) (.slice Aa1 np ca1) xp xa Aa na ca (fun _ => True) (fun _ => False) rfl rfl HRA1.out (Kd.C_below HCa.out HBA1.out) (fun x cs h => h) (fun _ h => h.elim) (fun _ _ => trivial) HBA1.out HBA1.out.size (by rw [HLp.out]; omega) ?_)
      intro v2 wb1 hR2 hB3 _ _
      obtain ⟨Ab1, cb1, rfl, _, _, _⟩ := R_addr hR2
      have hl1 : (xp ++ xa).length = np + na := by rw [List.length_append, HLp.out, HLa.out]
      rw [hl1] at hR2 ⊢
      have HLB1 := Lib.hid hl1
      have HRB1 := Lib.hid hR2
      have HBB1 := Lib.hid hB3
      clear hR2 hB3 hl1 HRA1
      go_wp2_with (at_builtin; refine Kd.R_append_rows (w0 := w) (W := wb1) Kd.string (Rr := fun x cs => cs = [.string x]) w.heap.size rfl _ _ 22 9 (.string ⟨#[]⟩) 16 rfl Try.underlying22 infoS rfl (by decide) (by decide) (.slice Ab1 (np + na) cb1) (xp ++ xa) xq Aq nq cq (fun _ => True) (fun _ => False) rfl rfl HRB1.out (Kd.C_below HCq.out HBB1.out) (fun x cs h => h) (fun _ h => h.elim) (fun _ _ => trivial) HBB1.out HBB1.out.size (by rw [HLB1.out]; omega) ?_)
      intro v3 w4 hR3 hB4 _ _
      have hR3' : Kd.string.R 9 w4 w.heap.size (fun _ => True) v3 (xp ++ xa ++ xq) := by simpa using hR3
      obtain ⟨Ac1, cc1, rfl, hcc1, hCc1, _⟩ := R_addr hR3'
      have hl1 : (xp ++ xa ++ xq).length = np + na + nq := by rw [List.length_append, HLB1.out, HLq.out]
      rw [hl1] at hcc1 hCc1
      have hl1' : (xp ++ (xa ++ xq)).length = np + na + nq := by rw [← List.append_assoc]; exact hl1
      first
        | rw [hl1]
        | rw [hl1']
      generalize hne1 : np + na + nq = m1 at *
      have HM1 := Lib.hid (And.intro hl1 hne1.symm)
      have HC1 := Lib.hid hCc1
      have HB1 := Lib.hid hB4
      clear hR3 hR3' hB4 hl1 hl1' hne1 hCc1 HRB1 HLB1 HBA1 HBB1
      clear HB3
      have HCp4 := Lib.hid (Kd.C_below HCp.out HB1.out)
      have HCb4 := Lib.hid (Kd.C_below HCb.out HB1.out)
      have HCq4 := Lib.hid (Kd.C_below HCq.out HB1.out)
      have HBR := Lib.hid (Below.refl w4.heap.size w4)
      have hj2 : Below w4.heap.size w4 (w4.alloc (.cells #[] 9)) := HBR.out.alloc HBR.out.size _
      have HJ2 := Lib.hid hj2
      have hs2 := HBR.out.size
      clear hj2
      go_wp2_with (at_builtin; refine Kd.R_append_rows (w0 := w4) (W := w4.alloc (.cells #[] 9)) Kd.string (Rr := fun x cs => cs = [.string x]) w4.heap.size rfl _ _ 22 9 (.string ⟨#[]⟩) 16 rfl Try.underlying22 infoS rfl (by decide) (by decide) (.slice (some ⟨w4.heap.size, 0, none⟩) 0 0) [] xp Ap np cp (fun _ => True) (fun _ => False) rfl rfl (str_made w4 _ hs2) (Kd.C_below HCp4.out HJ2.out) (fun x cs h => h) (fun _ h => h.elim) (fun _ _ => trivial) HJ2.out HJ2.out.size (by simp; omega) ?_)
      intro v1 wa2 hR1 hB2 _ _
      have hR1' : Kd.string.R 9 wa2 w4.heap.size (fun _ => True) v1 xp := by simpa using hR1
      obtain ⟨Aa2, ca2, rfl, _, _, _⟩ := R_addr hR1'
      rw [HLp.out] at hR1' ⊢
      have HRA2 := Lib.hid hR1'
      have HBA2 := Lib.hid hB2
      clear hR1 hR1' hB2 HJ2
      go_wp2_with (at_builtin; refine Kd.R_append_rows (w0 := w4) (W := wa2) Kd.string (Rr := fun x cs => cs = [.string x]) w4.heap.size rfl _ _ 22 9 (.string ⟨#[]⟩) 16 rfl Try.underlying22 infoS rfl (by decide) (by decide) (.slice Aa2 np ca2) xp xb Ab nb cb (fun _ => True) (fun _ => False) rfl rfl HRA2.out (Kd.C_below HCb4.out HBA2.out) (fun x cs h => h) (fun _ h => h.elim) (fun _ _ => trivial) HBA2.out HBA2.out.size (by rw [HLp.out]; omega) ?_)
      intro v2 wb2 hR2 hB3 _ _
      obtain ⟨Ab2, cb2, rfl, _, _, _⟩ := R_addr hR2
      have hl2 : (xp ++ xb).length = np + nb := by rw [List.length_append, HLp.out, HLb.out]
      rw [hl2] at hR2 ⊢
      have HLB2 := Lib.hid hl2
      have HRB2 := Lib.hid hR2
      have HBB2 := Lib.hid hB3
      clear hR2 hB3 hl2 HRA2
      go_wp2_with (at_builtin; refine Kd.R_append_rows (w0 := w4) (W := wb2) Kd.string (Rr := fun x cs => cs = [.string x]) w4.heap.size rfl _ _ 22 9 (.string ⟨#[]⟩) 16 rfl Try.underlying22 infoS rfl (by decide) (by decide) (.slice Ab2 (np + nb) cb2) (xp ++ xb) xq Aq nq cq (fun _ => True) (fun _ => False) rfl rfl HRB2.out (Kd.C_below HCq4.out HBB2.out) (fun x cs h => h) (fun _ h => h.elim) (fun _ _ => trivial) HBB2.out HBB2.out.size (by rw [HLB2.out]; omega) ?_)
      intro v3 w5 hR3 hB4 _ _
      have hR3' : Kd.string.R 9 w5 w4.heap.size (fun _ => True) v3 (xp ++ xb ++ xq) := by simpa using hR3
      obtain ⟨Ac2, cc2, rfl, hcc2, hCc2, _⟩ := R_addr hR3'
      have hl2 : (xp ++ xb ++ xq).length = np + nb + nq := by rw [List.length_append, HLB2.out, HLq.out]
      rw [hl2] at hcc2 hCc2
      have hl2' : (xp ++ (xb ++ xq)).length = np + nb + nq := by rw [← List.append_assoc]; exact hl2
      first
        | rw [hl2]
        | rw [hl2']
      generalize hne2 : np + nb + nq = m2 at *
      have HM2 := Lib.hid (And.intro hl2 hne2.symm)
      have HC2 := Lib.hid hCc2
      have HB2 := Lib.hid hB4
      clear hR3 hR3' hB4 hl2 hl2' hne2 hCc2 HRB2 HLB2 HBA2 HBB2
      have hbd : m1 + m2 ≤ 1200 := by have h1 := HM1.out.2; have h2 := HM2.out.2; omega
      have HX := Lib.hid (Kd.C_below HC1.out HB2.out)
      have HB5 := Lib.hid (below_then HB1.out HB1.out.size HB2.out)
      clear HC1 HB1 HB2 HCp4 HCb4 HCq4 HBR
      go_wp2_with fail
      refine (diff_n m1 m2 w5 _ _ _ _ (xp ++ xa ++ xq) (xp ++ xb ++ xq) HM1.out.1 HM2.out.1 HX.out HC2.out hbd).mono ?_
      rintro e w6 ⟨v, vo, vn, rfl, hH, hB⟩
      have HB6 := Lib.hid (below_then HB5.out HB5.out.size hB)
      clear hB HB5
      have hlen := hunks_length (xp ++ xa ++ xq) (xp ++ xb ++ xq)
      have hco := hunks_costs (xp ++ xa ++ xq) (xp ++ xb ++ xq)
      rw [HM1.out.1, HM2.out.1] at hlen hco
      obtain ⟨Ah, ch, rfl, hch, hCh⟩ := hH.C (by omega)
      obtain ⟨nh, hnh⟩ : ∃ n, n = (hunks (xp ++ xa ++ xq) (xp ++ xb ++ xq)).length := ⟨_, rfl⟩
      rw [← hnh] at hch hCh hlen ⊢
      have HNH := Lib.hid (And.intro hnh hco)
      have HCH := Lib.hid hCh
      clear hH hnh hCh hco
      go_wp2_with fail
      refine (cost_n nh ch Ah _ w6 HNH.out.1.symm HCH.out hch (by omega) (by have := HNH.out.2; omega)).mono ?_
      rw [hunks_cost, apartBy_joined]
      rintro e w7 ⟨rfl, hB⟩
      have HB7 := Lib.hid (below_then HB6.out HB6.out.size hB)
      clear hB HB6
      go_wp2_with fail
      refine (diff_n na nb w7 _ _ _ _ xa xb HLa.out HLb.out (Kd.C_below HCa.out HB7.out) (Kd.C_below HCb.out HB7.out) (by omega)).mono ?_
      rintro e w8 ⟨v, vo', vn', rfl, hH, hB⟩
      have HB8 := Lib.hid (below_then HB7.out HB7.out.size hB)
      clear hB HB7
      have hlen2 := hunks_length xa xb
      have hco2 := hunks_costs xa xb
      rw [HLa.out, HLb.out] at hlen2 hco2
      obtain ⟨Ai, ci, rfl, hci, hCi⟩ := hH.C (by omega)
      obtain ⟨ni, hni⟩ : ∃ n, n = (hunks xa xb).length := ⟨_, rfl⟩
      rw [← hni] at hci hCi hlen2 ⊢
      have HNI := Lib.hid (And.intro hni hco2)
      have HCI := Lib.hid hCi
      clear hH hni hCi hco2
      go_wp2_with fail
      refine (cost_n ni ci Ai _ w8 HNI.out.1.symm HCI.out hci (by omega) (by have := HNI.out.2; omega)).mono ?_
      rw [hunks_cost]
      rintro e w9 ⟨rfl, hB⟩
      have HB9 := Lib.hid (below_then HB8.out HB8.out.size hB)
      clear hB HB8
      go_wp2_with fail
      go_ret
      exact ⟨by simp, HB9.out⟩
end Go.Proofs.Ytjclpepdjnffaaa
