/- DiffMakes' contract. -/
import Derived.Test.YtjclpepdjnffaaaLaws06
set_option linter.unusedVariables false
set_option linter.unusedSimpArgs false
namespace Go.Proofs.Ytjclpepdjnffaaa
open Go.RowKit Go.Proofs.YtjclpepdjnffaaaW.PrintWords Go.Proofs.YtjclpepdjnffaaaW.PrintLast Go.Proofs.Ytjclpepdjnffaaa.PDiffTells

theorem drop_at {α : Type} (l : List α) (i : Nat) (h : i < l.length) : l.drop i = l[i] :: l.drop (i + 1) := List.drop_eq_getElem_cons h
set_option maxRecDepth 100000 in
set_option maxHeartbeats 16000000 in
theorem makes_law (w : World) (xa : List ByteArray) (Aa : Option Addr) (na ca : Nat) (ha : (Kd.slice 9 Kd.string).K w xa [.slice Aa na ca]) (ga0 : goodL xa) (xb : List ByteArray) (Ab : Option Addr) (nb cb : Nat) (hb : (Kd.slice 9 Kd.string).K w xb [.slice Ab nb cb]) (gb0 : goodL xb) :
    Calls Try.prog 4 #[.slice Aa na ca, .slice Ab nb cb] w fun e w' => e = .returned (.bool true) ∧ Below w.heap.size w w' := by
  obtain ⟨rfl, hca, hCa⟩ := lines_open ha
  have ga := goodL_lt ga0
  have HCa := Lib.hid hCa
  obtain ⟨na, hna⟩ : ∃ n, n = xa.length := ⟨_, rfl⟩
  rw [← hna] at hca ga HCa ⊢
  have HLa := Lib.hid hna.symm
  clear ha ga0 hCa hna
  obtain ⟨rfl, hcb, hCb⟩ := lines_open hb
  have gb := goodL_lt gb0
  have HCb := Lib.hid hCb
  obtain ⟨nb, hnb⟩ : ∃ n, n = xb.length := ⟨_, rfl⟩
  rw [← hnb] at hcb gb HCb ⊢
  have HLb := Lib.hid hnb.symm
  clear hb gb0 hCb hnb
  go_enter Try.func4, Try.ntmps4
  go_wp2_with fail
  refine (head_any w).mono ?_
  rintro e w1 ⟨rfl, hB⟩
  have HB1 := Lib.hid hB
  clear hB
  go_wp2_with fail
  obtain ⟨r, hr, hcall⟩ := great_n na nb ca cb xa xb Aa Ab w1 HLa.out HLb.out (Kd.C_below HCa.out HB1.out) hca (Kd.C_below HCb.out HB1.out) hcb ga gb
  refine hcall.mono ?_
  clear hcall
  rintro e w2 ⟨rfl, hB⟩
  have HB2 := Lib.hid (below_then HB1.out HB1.out.size hB)
  clear hB HB1
  cases r with
  | true =>
    clear hr
    go_wp2_with fail
    go_ret
    exact ⟨rfl, HB2.out⟩
  | false =>
    obtain ⟨ba, bb⟩ := hr rfl
    clear hr
    go_wp2_with fail
    refine (diff_n na nb w2 _ _ _ _ xa xb HLa.out HLb.out (Kd.C_below HCa.out HB2.out) (Kd.C_below HCb.out HB2.out) (by omega)).mono ?_
    rintro e w3 ⟨v, vo, vn, rfl, hH, hB⟩
    have HB3 := Lib.hid (below_then HB2.out HB2.out.size hB)
    clear hB HB2
    have hmk := hunks_makes xa xb
    have hco := hunks_costs xa xb
    have hlen := hunks_length xa xb
    have hnone := hunks_none xa xb
    rw [HLa.out, HLb.out] at hlen hco
    obtain ⟨hs, hhs⟩ : ∃ hs, hs = hunks xa xb := ⟨_, rfl⟩
    rw [← hhs] at hH hmk hco hlen hnone
    obtain ⟨Ah, ch, rfl, hch, _⟩ := hH.C (by omega)
    obtain ⟨nh, hnh⟩ : ∃ n, n = hs.length := ⟨_, rfl⟩
    rw [← hnh] at hch hlen ⊢
    have HH := Lib.hid hH
    have HNH := Lib.hid hnh.symm
    have HMK := Lib.hid (And.intro hmk (And.intro hco hnone))
    clear hH hnh hmk hco hnone hhs
    go_wp2_with fail
    go_loopw [7, 8, 9] (fun vx vl vi wr => ∃ (i m nx cx : Nat) (X : List ByteArray) (Ax : Option Addr), i ≤ nh ∧ vi = .int .i64 (i : Int) ∧ vl = .int .i64 ((m : Int) - 1) ∧ vx = .slice Ax nx cx ∧ X.length = nx ∧ nx ≤ cx ∧ Kd.string.C wr Ax nx X ∧ m ≤ 100000 ∧ nx + costs (hs.drop i) ≤ 600 ∧ Makes X m (hs.drop i) xb ∧ Below w3.heap.size w3 wr) (fun _ _ vi _ => nh - (intOf vi).toNat)
    case atStart => exact ⟨0, 0, na, ca, xa, Aa, by omega, rfl, rfl, rfl, HLa.out, hca, Kd.C_below HCa.out HB3.out, by omega, by have := HMK.out.2.1; rw [List.drop_zero]; omega, HMK.out.1, Below.refl _ _⟩
    case round =>
      obtain ⟨i, m, nx, cx, X, Ax, hi, rfl, rfl, rfl, hX, hcx, hCX, hm, hbd, hmk, hB4⟩ := hrel
      have HCX := Lib.hid hCX
      have HX := Lib.hid hX
      have HB4 := Lib.hid hB4
      have HM := Lib.hid (And.intro hbd hmk)
      clear hCX hX hB4 hbd hmk
      by_cases hin : i < nh
      · have hil : i < hs.length := by rw [HNH.out]; exact hin
        have hHr := HH.out.below HB4.out
        have hrw := hHr.rows
        rw [HNH.out] at hrw
        obtain ⟨g, cap, he, _, _, hgl, cells, hcells⟩ := own_form hrw (by omega)
        injection he with he1 he2 he3
        subst he1
        subst he3
        obtain ⟨q0, q1, q2⟩ := hHr.get g ch (by rw [HNH.out]) hil
        have hgd : hs.getD i hk0 = hs[i] := by rw [List.getD_eq_getElem?_getD, List.getElem?_eq_getElem hil]; rfl
        have hro := hHr.old i hil
        have hrn := hHr.new i hil
        rw [hgd] at q0 hro hrn
        have hdr := drop_at hs i hil
        have hM := HM.out
        rw [hdr] at hM
        obtain ⟨x, hx⟩ : ∃ x, x = hs[i] := ⟨_, rfl⟩
        rw [← hx] at q0 hro hrn hM
        obtain ⟨hb1, hne, hmp, q, r, hXe, hq, hmk2⟩ := hM
        have hcs : costs (x :: hs.drop (i + 1)) = x.old.length + x.new.length + costs (hs.drop (i + 1)) := by simp [costs, Hk.cost]
        rw [hcs] at hb1
        obtain ⟨Ao, co, hvo, hco, hCo, _⟩ := R_addr hro
        obtain ⟨An, cn, hvn, hcn, hCn, _⟩ := R_addr hrn
        rw [hvo] at q1
        rw [hvn] at q2
        have hXl : nx = q.length + x.old.length + r.length := by
          have := HX.out
          rw [hXe] at this
          simp only [List.length_append] at this
          omega
        have hap : appliedI X (x.pos : Int) x.old x.new = some (q ++ x.new ++ r) := by
          rw [appliedI_nat, hXe]
          exact applied_at q r x hq
        have hyl : (q ++ x.new ++ r).length = q.length + x.new.length + r.length := by simp only [List.length_append]
        have HAP := Lib.hid (And.intro hap (And.intro hyl hmk2))
        have HCO := Lib.hid hCo
        have HCN := Lib.hid hCn
        clear hHr hrw hcells hro hrn hgd hx hcs hdr hvo hvn hap hyl hmk2 hXe HM hCo hCn he2
        obtain ⟨p, hp⟩ : ∃ p, p = x.pos := ⟨_, rfl⟩
        obtain ⟨no, hno⟩ : ∃ no, no = x.old.length := ⟨_, rfl⟩
        obtain ⟨nn, hnn⟩ : ∃ nn, nn = x.new.length := ⟨_, rfl⟩
        rw [← hp] at q0 hmp hq HAP
        rw [← hno] at q1 hne hb1 hXl hco HCO
        rw [← hnn] at q2 hne hb1 hcn HCN HAP
        have HNO := Lib.hid (And.intro hno hnn)
        clear hp hno hnn
        have hpb : p ≤ 600 := by omega
        have hne2 : ((no : Int) + (nn : Int) == 0) = false := by rw [beq_eq_false_iff_ne]; omega
        have hle : decide ((p : Int) ≤ (m : Int) - 1) = false := decide_eq_false (by omega)
        have hle2 : ¬ (p : Int) ≤ (m : Int) - 1 := by omega
        have hno6 : no ≤ 600 := by omega
        have hnn6 : nn ≤ 600 := by omega
        have HQ := Lib.hid (And.intro hXl hq)
        have HB1' := Lib.hid hb1
        clear hXl hq hb1
        have HQC := Lib.hid (And.intro q0 (And.intro q1 q2))
        go_wp2_with fail
        go_quiet (fail)
        go_wp2_with fail
        have hnx : nx ≤ 600 := by have := HB1'.out; omega
        refine (apply_n nx no nn cx co cn (wr.drewN nq) Ax Ao An X x.old x.new (p : Int) HX.out HNO.out.1.symm HNO.out.2.symm (Kd.C_drewN HCX.out nq) hcx (Kd.C_drewN HCO.out nq) hco (Kd.C_drewN HCN.out nq) hcn (by omega) (by omega) (by omega)).mono ?_
        rw [HAP.out.1]
        rintro e w5 ⟨v, rfl, hR, hB⟩
        have hB5 := below_then (pw_below_drewN HB4.out nq) (Nat.le_trans HB4.out.size (Nat.le_refl _)) hB
        have HB5 := Lib.hid hB5
        obtain ⟨Ay, cy, rfl, hcy, hCy, _⟩ := R_addr hR
        have hsel : ((some (q ++ x.new ++ r) : Option (List ByteArray)).getD []).length = q.length + nn + r.length := HAP.out.2.1
        have hcy' : q.length + nn + r.length ≤ cy := by rw [← hsel]; exact hcy
        have hCy' : Kd.string.C w5 Ay (q.length + nn + r.length) (q ++ x.new ++ r) := by have := hCy; rw [hsel] at this; exact this
        rw [hsel]
        have HNY := Lib.hid (show q.length + nn + r.length + costs (hs.drop (i + 1)) ≤ 600 by have h1 := HB1'.out; have h2 := HQ.out.1; omega)
        have HYL := Lib.hid (show (q ++ x.new ++ r).length = q.length + nn + r.length from HAP.out.2.1)
        generalize q.length + nn + r.length = ny at *
        have HCY := Lib.hid hCy'
        have p0 : w5.cell? ⟨g, i * 3, none⟩ = some (.int .i64 (p : Int)) := pw_cell_below hB (show (wr.drewN nq).cell? _ = _ from HQC.out.1)
        have p2 : w5.cell? ⟨g, i * 3 + 2, none⟩ = some (.slice An nn cn) := pw_cell_below hB (show (wr.drewN nq).cell? _ = _ from HQC.out.2.2)
        have hg5 : g < w5.heap.size := Nat.lt_of_lt_of_le (show g < (wr.drewN nq).heap.size from hgl) hB.size
        clear hR hB hB5 hcy hCy hsel hCy' q0 q1 q2
        go_wp2_with fail
        go_quiet (fail)
        go_wp2_with fail
        refine ⟨⟨i + 1, p + nn + 1, ny, cy, q ++ x.new ++ r, Ay, by omega, by go_num, ?_, rfl, HYL.out, hcy', Kd.C_drewN HCY.out _, by omega, HNY.out, HAP.out.2.2, pw_below_drewN HB5.out _⟩, by simp [intOf]; omega⟩
        congr 1
        omega
      · obtain rfl : i = nh := by omega
        have hX2 : X = xb := by
          have := HM.out.2
          rw [List.drop_eq_nil_of_le (by rw [HNH.out]; exact Nat.le_refl _)] at this
          exact this
        subst hX2
        have hnx : nx = nb := by rw [← HX.out, HLb.out]
        subst hnx
        have hn1 : (((i : Nat) : Int) == 0) = decide (xa = X) := by
          have h1 := HMK.out.2.2
          by_cases h : xa = X
          · rw [decide_eq_true h, beq_iff_eq]
            have := h1.2 h
            have h2 := HNH.out
            rw [this] at h2
            simp at h2
            omega
          · rw [decide_eq_false h, beq_eq_false_iff_ne]
            intro h0
            apply h
            apply h1.1
            apply List.length_eq_zero_iff.1
            rw [HNH.out]
            omega
        have HN1 := Lib.hid hn1
        clear hn1
        go_wp2_with fail
        refine (lsame_n nx nx cx cb X X Ax Ab wr HX.out HX.out HCX.out hcx (Kd.C_below (Kd.C_below HCb.out HB3.out) HB4.out) hcb (by omega)).mono ?_
        rw [decide_eq_true rfl]
        rintro e w5 ⟨rfl, hB⟩
        have HB5 := Lib.hid (below_then HB4.out HB4.out.size hB)
        clear hB
        go_wp2_with fail
        refine (lsame_n na nx ca cb xa X Aa Ab w5 HLa.out HX.out (Kd.C_below (Kd.C_below HCa.out HB3.out) HB5.out) hca (Kd.C_below (Kd.C_below HCb.out HB3.out) HB5.out) hcb (by omega)).mono ?_
        rintro e w6 ⟨rfl, hB⟩
        have HB6 := Lib.hid (below_then HB5.out HB5.out.size hB)
        clear hB
        rw [← HN1.out]
        go_wp2_with fail
        go_ret
        exact ⟨by simp, below_then HB3.out HB3.out.size HB6.out⟩
end Go.Proofs.Ytjclpepdjnffaaa
