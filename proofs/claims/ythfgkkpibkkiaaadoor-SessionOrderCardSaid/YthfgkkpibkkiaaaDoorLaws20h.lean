/- SessionOrder's contract. -/
import Derived.Test.YthfgkkpibkkiaaaDoorSessPr
set_option linter.unusedVariables false
set_option linter.unusedSimpArgs false
namespace Go.Proofs.YthfgkkpibkkiaaaDoor
open Go.RowKit Go.Proofs.YthfgkkpibkkiaaaDoorW.PrintWords Go.Proofs.YthfgkkpibkkiaaaDoorW.PrintLast Go.Proofs.YthfgkkpibkkiaaaDoor.PSessionPlays

set_option maxRecDepth 100000 in
set_option maxHeartbeats 8000000 in
theorem order_law (w : World) (ep : Int) (we : (Lit.int .i64 ep).wf = true) (xs : List Mv) (A : Option Addr) (n c : Nat) (h : kMvs.K w xs [.slice A n c]) (g : goodMvs xs) (hG : Ground w) :
    Calls Tryd.prog 5 #[.int .i64 ep, .slice A n c] w fun e w' => e = .returned (.bool true) ∧ Below w.heap.size w w' := by
  obtain ⟨hn, hc, hX⟩ := moves_open h
  have HX := Lib.hid hX
  have HN := Lib.hid (And.intro hn hc)
  have HH := Lib.hid (head_any w hG)
  have HG := Lib.hid g
  have hnb : n ≤ 140737488351232 := by have := g.1; omega
  clear h g hG hX hn hc we
  go_enter Tryd.func5, Tryd.ntmps5
  go_wp2_with fail
  refine HH.out.mono ?_
  rintro r w1 ⟨rfl, hB1⟩
  have HB1 := Lib.hid hB1
  clear hB1 HH
  go_wp2_with fail
  refine (new_any ep w1).mono ?_
  rintro r w2 (⟨hep, rfl, hB2⟩ | ⟨hep, g1, rfl, hE, hB2⟩)
  · have HB2 := Lib.hid hB2
    have HEP := Lib.hid hep
    clear hB2 hep
    go_wp2_with fail
    refine (new_any ep w2).mono ?_
    rintro r w3 (⟨hep, rfl, hB3⟩ | ⟨hep, g2, rfl, hE3, hB3⟩)
    rotate_left
    · exact absurd hep (by rw [HEP.out]; simp)
    have HB3 := Lib.hid (HB2.out.trans (hB3.mono HB2.out.size))
    clear hB3 HB2 hep
    go_wp2_with fail
    go_ret
    exact ⟨rfl, HB1.out.trans ((HB3.out.alloc HB3.out.size _).mono HB1.out.size)⟩
  have HEP := Lib.hid hep
  have HE := Lib.hid (And.intro hE hB2)
  clear hE hB2 hep
  go_wp2_with fail
  refine (new_any ep w2).mono ?_
  rintro r w3 (⟨hep, rfl, hB3⟩ | ⟨hep, g2, rfl, hE3, hB3⟩)
  · exact absurd hep (by rw [HEP.out]; simp)
  have hP4 := pair_new HE.out.1 HE.out.2 hE3 hB3
  obtain ⟨w4, hw4⟩ : ∃ w4, w4 = w3.alloc (.cells #[.pointer (some ⟨g1, 0, none⟩), .pointer (some ⟨g2, 0, none⟩), .slice none 0 0, .slice none 0 0, .slice none 0 0] 55) := ⟨_, rfl⟩
  obtain ⟨pb, hpb⟩ : ∃ pb, pb = w3.heap.size := ⟨_, rfl⟩
  rw [← hw4, ← hpb] at hP4
  have HP4 := Lib.hid hP4
  have HW := Lib.hid (And.intro hw4 hpb)
  clear hep hE3 hB3 HE hP4 hw4 hpb
  go_upto_region 3 with (fail)
  rw [← HW.out.1, ← HW.out.2]
  clear HW
  obtain ⟨p0, p1, _⟩ := HP4.out.rows
  go_wp2_with fail
  refine (greatMoves_any A n c xs w4 HN.out.1 hnb (Kd.C_below HX.out (HB1.out.trans (HP4.out.hB.mono HB1.out.size)))).mono ?_
  rintro r w5 ⟨⟨gb, rfl⟩, hB5⟩
  have HP5 := Lib.hid (HP4.out.below hB5)
  clear hB5 HP4 p0 p1
  cases gb with
  | true =>
    go_wp2_with fail
    go_ret
    exact ⟨rfl, HB1.out.trans (HP5.out.hB.mono HB1.out.size)⟩
  | false =>
    go_wp2_with fail
    go_loopw [7] (fun vi wr => ∃ (i : Nat) (p : Pr), vi = .int .i64 (i : Int) ∧ i ≤ n ∧ Inv ep p ∧ Small p ∧ PairAt w1 wr pb g1 g2 p) (fun vi _ => n - (intOf vi).toNat)
    case atStart => exact ⟨0, _, rfl, by omega, Inv.new ep, Small.new ep, HP5.out⟩
    case round =>
      obtain ⟨i, p, rfl, hi, hinv, hsm, hP⟩ := hrel
      have HP := Lib.hid hP
      have HIS := Lib.hid (And.intro hinv hsm)
      clear hP hinv hsm HP5
      by_cases hin : i < n
      · have d1 : (i : Int) < (n : Int) := by omega
        obtain ⟨m, hm⟩ : ∃ x, xs[i]? = some x := ⟨_, List.getElem?_eq_getElem (by have := HN.out.1; omega)⟩
        obtain ⟨ax, D, dc, rfl, x0, x1, x2, x3, x4⟩ := at_mv (Kd.C_below HX.out (HB1.out.trans (HP.out.hB.mono HB1.out.size))) i hin m hm
        obtain ⟨ax', D', dc', hax, y0, y1, y2, y3, y4⟩ := at_mv (Kd.C_below HX.out HB1.out) i hin m hm
        obtain rfl : ax = ax' := Option.some.inj hax
        have hsl : Value.slice D m.data.length dc = Value.slice D' m.data.length dc' := Option.some.inj (x3.symm.trans (HP.out.hB.cell (World.block_lt_of_cell? w1 _ y3) |>.trans y3))
        injection hsl with e1 e2 e3
        subst e1 e3
        have hgm : goodMv m := HG.out.2 m (List.mem_of_getElem? hm)
        have hdl : m.data.length ≤ 140737488351232 := by have := hgm.2.2.2.1; omega
        obtain ⟨dn, hdn⟩ : ∃ d, d = m.data.length := ⟨_, rfl⟩
        rw [← hdn] at x3 y4 hdl
        have hst := step_any w1 wr pb g1 g2 p HP.out (caps_of HIS.out.1 HIS.out.2) m D dn dc y4 hdl
        obtain ⟨p', hp'⟩ : ∃ p', p' = pstep p m := ⟨_, rfl⟩
        rw [← hp'] at hst
        have HST := Lib.hid hst
        have HIS2 := Lib.hid (show Inv ep p' ∧ Small p' from by rw [hp']; exact ⟨HIS.out.1.step m, HIS.out.2.step m⟩)
        clear hst hp' hax y0 y1 y2 y3 y4 x4 hm hgm hdl hdn e2
        go_wp2_with fail
        refine HST.out.mono ?_
        rintro r w6 ⟨⟨v, rfl⟩, hP6⟩
        have HP6 := Lib.hid hP6
        have HCP := Lib.hid (caps_of HIS2.out.1 HIS2.out.2)
        clear hP6 HST HP HIS x0 x1 x2 x3
        obtain ⟨p0, p1, _⟩ := HP6.out.rows
        go_wp2_with fail
        refine (HP6.out.a (fun S h => got_any w6 w1.heap.size g1 S _ h HCP.out.ac (fun l hl => by
          have h1 := HIS2.out.1.ca.subset hl
          have := HIS2.out.2.bz l h1
          omega))).mono ?_
        rintro r w7 ⟨vx, rfl, hRx, hB7⟩
        have HP7 := Lib.hid (HP6.out.below hB7)
        obtain ⟨Ax, cx, rfl, hcx, hCx⟩ := Kd.R_reads hRx
        have HX7 := Lib.hid (And.intro hcx hCx)
        clear hRx hB7 hcx hCx HP6 p0 p1
        obtain ⟨p0, p1, _⟩ := HP7.out.rows
        go_wp2_with fail
        refine (HP7.out.b (fun S h => got_any w7 w1.heap.size g2 S _ h HCP.out.bc (fun l hl => by
          have h1 := HIS2.out.1.cb.subset hl
          have := HIS2.out.2.az l h1
          omega))).mono ?_
        rintro r w8 ⟨vy, rfl, hRy, hB8⟩
        have HP8 := Lib.hid (HP7.out.below hB8)
        obtain ⟨Ay, cy, rfl, hcy, hCy⟩ := Kd.R_reads hRy
        have HY8 := Lib.hid (And.intro hcy hCy)
        have HX8 := Lib.hid (And.intro HX7.out.1 (Kd.C_below HX7.out.2 hB8))
        clear hRy hB8 hcy hCy HP7 HX7 p0 p1
        obtain ⟨p0, p1, As, cs, At, ct, p3, p4, hcs, hct, hCs, hCt⟩ := HP8.out.rows
        obtain ⟨nx, hnx⟩ : ∃ k, k = p'.a.came.length := ⟨_, rfl⟩
        obtain ⟨ny, hny⟩ : ∃ k, k = p'.b.came.length := ⟨_, rfl⟩
        obtain ⟨ns, hns⟩ : ∃ k, k = p'.s.length := ⟨_, rfl⟩
        obtain ⟨nt, hnt⟩ : ∃ k, k = p'.t.length := ⟨_, rfl⟩
        rw [← hnx] at HX8 ⊢
        rw [← hny] at HY8 ⊢
        rw [← hns] at p3 hcs hCs
        rw [← hnt] at p4 hct hCt
        have HL := Lib.hid (And.intro hnx (And.intro hny (And.intro hns hnt)))
        have HST := Lib.hid (And.intro hcs (And.intro hct (And.intro hCs hCt)))
        have hpt : p'.a.came <+: p'.t := by rw [← HIS2.out.1.sb]; exact HIS2.out.1.ca
        have hps : p'.b.came <+: p'.s := by rw [← HIS2.out.1.sa]; exact HIS2.out.1.cb
        have hbt := begins_any p'.a.came p'.t hpt Ax At nx cx nt ct hnx.symm hnt.symm (by have := HCP.out.tl; omega) w8 HX8.out.2 HX8.out.1 hCt hct
        have HBT := Lib.hid hbt
        have HPS := Lib.hid hps
        have HNS := Lib.hid (show ns ≤ 1000000 by have := HCP.out.sl; omega)
        clear hbt hpt hps hnx hny hns hnt hcs hct hCs hCt
        go_wp2_with fail
        refine HBT.out.mono ?_
        rintro r w9 ⟨rfl, hB9⟩
        have HP9 := Lib.hid (HP8.out.below hB9)
        have hbs := begins_any p'.b.came p'.s HPS.out Ay As ny cy ns cs HL.out.2.1.symm HL.out.2.2.1.symm HNS.out w9 (Kd.C_below HY8.out.2 hB9) HY8.out.1 (Kd.C_below HST.out.2.2.1 hB9) HST.out.1
        have HBS := Lib.hid hbs
        have q0 := pw_cell_below hB9 p0
        have q1 := pw_cell_below hB9 p1
        have q3 := pw_cell_below hB9 p3
        have q4 := pw_cell_below hB9 p4
        clear hB9 hbs HBT HP8 p0 p1 p3 p4
        go_wp2_with fail
        refine HBS.out.mono ?_
        rintro r w10 ⟨rfl, hB10⟩
        have HP10 := Lib.hid (HP9.out.below hB10)
        have p0 := pw_cell_below hB10 q0
        have p1 := pw_cell_below hB10 q1
        have p3 := pw_cell_below hB10 q3
        have p4 := pw_cell_below hB10 q4
        clear hB10 HBS HP9 q0 q1 q3 q4
        go_wp2_with fail
        refine (HP10.out.a (fun S h => done_any w10 w1.heap.size g1 S _ h)).mono ?_
        rintro r w11 ⟨rfl, hB11⟩
        have HP11 := Lib.hid (HP10.out.below hB11)
        have q0 := pw_cell_below hB11 p0
        have q1 := pw_cell_below hB11 p1
        have q3 := pw_cell_below hB11 p3
        have q4 := pw_cell_below hB11 p4
        obtain ⟨da, hda⟩ : ∃ b, b = decide (p'.a.there = p'.a.sent.length) := ⟨_, rfl⟩
        rw [← hda]
        have HDA := Lib.hid (show da = true → ((ny : Int) != (ns : Int)) = false from by
          intro h
          have hd := of_decide_eq_true (hda.symm.trans h)
          rw [bne_eq_false_iff_eq, HL.out.2.1, HL.out.2.2.1, HIS2.out.1.done hd])
        clear hB11 HP10 p0 p1 p3 p4 hda
        have HFIN := Lib.hid hi
        cases da with
        | true =>
          have dn1 := HDA.out rfl
          go_wp2_with fail
          refine (HP11.out.b (fun S h => done_any w11 w1.heap.size g2 S _ h)).mono ?_
          rintro r w12 ⟨rfl, hB12⟩
          have HP12 := Lib.hid (HP11.out.below hB12)
          have p0 := pw_cell_below hB12 q0
          have p1 := pw_cell_below hB12 q1
          have p3 := pw_cell_below hB12 q3
          have p4 := pw_cell_below hB12 q4
          obtain ⟨db, hdb⟩ : ∃ b, b = decide (p'.b.there = p'.b.sent.length) := ⟨_, rfl⟩
          rw [← hdb]
          have HDB := Lib.hid (show db = true → ((nx : Int) != (nt : Int)) = false from by
            intro h
            have hd := of_decide_eq_true (hdb.symm.trans h)
            rw [bne_eq_false_iff_eq, HL.out.1, HL.out.2.2.2, HIS2.out.1.done2 hd])
          clear hB12 HP11 q0 q1 q3 q4 hdb
          cases db with
          | true =>
            have dn2 := HDB.out rfl
            go_wp2_with fail
            refine ⟨⟨i + 1, p', by go_num, by omega, HIS2.out.1, HIS2.out.2, HP12.out⟩, by simp [intOf]; omega⟩
          | false =>
            go_wp2_with fail
            refine ⟨⟨i + 1, p', by go_num, by omega, HIS2.out.1, HIS2.out.2, HP12.out⟩, by simp [intOf]; omega⟩
        | false =>
          go_wp2_with fail
          refine (HP11.out.b (fun S h => done_any w11 w1.heap.size g2 S _ h)).mono ?_
          rintro r w12 ⟨rfl, hB12⟩
          have HP12 := Lib.hid (HP11.out.below hB12)
          have p0 := pw_cell_below hB12 q0
          have p1 := pw_cell_below hB12 q1
          have p3 := pw_cell_below hB12 q3
          have p4 := pw_cell_below hB12 q4
          obtain ⟨db, hdb⟩ : ∃ b, b = decide (p'.b.there = p'.b.sent.length) := ⟨_, rfl⟩
          rw [← hdb]
          have HDB := Lib.hid (show db = true → ((nx : Int) != (nt : Int)) = false from by
            intro h
            have hd := of_decide_eq_true (hdb.symm.trans h)
            rw [bne_eq_false_iff_eq, HL.out.1, HL.out.2.2.2, HIS2.out.1.done2 hd])
          clear hB12 HP11 q0 q1 q3 q4 hdb
          cases db with
          | true =>
            have dn2 := HDB.out rfl
            go_wp2_with fail
            refine ⟨⟨i + 1, p', by go_num, by omega, HIS2.out.1, HIS2.out.2, HP12.out⟩, by simp [intOf]; omega⟩
          | false =>
            go_wp2_with fail
            refine ⟨⟨i + 1, p', by go_num, by omega, HIS2.out.1, HIS2.out.2, HP12.out⟩, by simp [intOf]; omega⟩
      · obtain rfl : n = i := by omega
        have d1 : ¬ (n : Int) < (n : Int) := by omega
        go_wp2_with fail
        go_ret
        exact ⟨rfl, HB1.out.trans (HP.out.hB.mono HB1.out.size)⟩
end Go.Proofs.YthfgkkpibkkiaaaDoor
