/- Chapter 01: DiskKept. -/
import Derived.Test.YtbfpmlblnfablaaLaws01g
set_option linter.unusedVariables false
set_option linter.unusedSimpArgs false
namespace Go.Proofs.Ytbfpmlblnfablaa
open Go.RowKit Go.Proofs.YtbfpmlblnfablaaW.PrintWords Go.Proofs.YtbfpmlblnfablaaW.PrintLast Go.Proofs.YtbfpmlblnfablaaW.PrintMore
attribute [local go_sem] max_two

theorem crash_none : ∀ (cs : List Chg) (fs : Files) (n : Nat), crashF fs cs (List.replicate n false) = fs
  | [], fs, n => crashF_nil _ _
  | c :: cs, fs, 0 => by rw [List.replicate_zero, crashF_none]
  | c :: cs, fs, n + 1 => by
    rw [List.replicate_succ, crashF, if_neg (by simp)]
    exact crash_none cs fs n
theorem crash_snoc : ∀ (cs : List Chg) (fs : Files) (c : Chg), crashF fs (cs ++ [c]) (List.replicate (cs.length + 1) true) = appl (crashF fs cs (List.replicate cs.length true)) c
  | [], fs, c => by
    show crashF fs [c] [true] = appl (crashF fs [] []) c
    rfl
  | x :: cs, fs, c => by
    have := crash_snoc cs (appl fs x) c
    simp only [List.cons_append, List.length_cons, List.replicate_succ, crashF, if_true]
    rw [List.replicate_succ] at this
    exact this
/-- All changes, done anew on what was synced, give what is there. -/
def Replays (d : D) : Prop := crashF d.old d.ch (List.replicate d.ch.length true) = d.now
theorem Replays.act {d : D} (h : Replays d) (code : Int) (c : Chg) : Replays (actD d code c) := by
  unfold actD
  split
  · exact h
  · split
    · show crashF d.old (d.ch ++ [c]) (List.replicate (d.ch ++ [c]).length true) = appl d.now c
      rw [List.length_append, List.length_singleton, crash_snoc, show crashF d.old d.ch (List.replicate d.ch.length true) = d.now from h]
    · exact h
theorem Replays.sync {d : D} (h : Replays d) : Replays (syncD d) := by
  unfold syncD
  split
  · exact h
  · exact crashF_nil _ _
theorem Replays.does {d : D} (h : Replays d) (o : Op1) (ho : o.what < 5) : Replays (doesD d o) := by
  unfold doesD
  split
  · exact h.act _ _
  · split
    · exact h.act _ _
    · split
      · exact h.act _ _
      · split
        · exact h.act _ _
        · split
          · exact h.sync
          · rw [if_neg (by omega), if_neg (by omega)]
            exact h
theorem act_old (d : D) (code : Int) (c : Chg) : (actD d code c).old = d.old := by
  unfold actD
  split
  · rfl
  · split <;> rfl
theorem act_room (d : D) (code : Int) (c : Chg) : (actD d code c).ch.length ≤ d.ch.length + 1 := by
  unfold actD
  split
  · exact Nat.le_succ _
  · split
    · show (d.ch ++ [c]).length ≤ _
      rw [List.length_append, List.length_singleton]
      exact Nat.le_refl _
    · exact Nat.le_succ _
theorem sync_room (d : D) : (syncD d).ch.length ≤ d.ch.length + 1 := by
  unfold syncD
  split
  · exact Nat.le_succ _
  · exact Nat.zero_le _
theorem does_room (d : D) (o : Op1) (ho : o.what < 5) : (doesD d o).ch.length ≤ d.ch.length + 1 := by
  unfold doesD
  split
  · exact act_room _ _ _
  · split
    · exact act_room _ _ _
    · split
      · exact act_room _ _ _
      · split
        · exact act_room _ _ _
        · split
          · exact sync_room _
          · rw [if_neg (by omega), if_neg (by omega)]
            exact Nat.le_succ _
/-- What was synced last: where a Sync answers OK, what is there; else as it was. -/
theorem does_old (d : D) (o : Op1) (ho : o.what < 5) : (o.what = 4 → doesE d o = 0 → (doesD d o).old = (doesD d o).now) ∧ (¬ (o.what = 4 ∧ doesE d o = 0) → (doesD d o).old = d.old) := by
  by_cases h4 : o.what = 4
  · have e1 : doesE d o = syncE d := by unfold doesE; rw [if_neg (by omega), if_neg (by omega), if_neg (by omega), if_neg (by omega), if_pos h4]
    have e2 : doesD d o = syncD d := by unfold doesD; rw [if_neg (by omega), if_neg (by omega), if_neg (by omega), if_neg (by omega), if_pos h4]
    rw [e1, e2]
    unfold syncE syncD actE
    cases offD d with
    | true => simp
    | false => simp [h4, ranD]
  · refine ⟨fun h => absurd h h4, fun _ => ?_⟩
    unfold doesD
    split
    · exact act_old _ _ _
    · split
      · exact act_old _ _ _
      · split
        · exact act_old _ _ _
        · split
          · exact act_old _ _ _
          · rw [if_neg (by omega), if_neg (by omega)]
theorem set_next (j m : Nat) (b : Bool) (h : j < m) : (List.replicate j b ++ List.replicate (m - j) false).set j b = List.replicate (j + 1) b ++ List.replicate (m - (j + 1)) false := by
  obtain ⟨q, hq⟩ : ∃ q, m - j = q + 1 := ⟨m - j - 1, by omega⟩
  rw [hq, show m - (j + 1) = q by omega, List.set_append_right _ _ (by simp), List.length_replicate, Nat.sub_self, List.replicate_succ, List.set_cons_zero, List.replicate_succ', List.append_assoc]
  rfl
theorem infoB : (Try.prog.info? 4).map (fun i => (i.zero, i.size, i.bytes)) = some (some (.bool false), 1, 1) := by kernel_rfl
theorem make_bools (m : Nat) (hm : m ≤ 1000000) : ∀ W : World, (Instr.makeSlice 33 (.int .i64 (m : Int)) (.int .i64 (m : Int))).run Try.prog W = .ok (.slice (some ⟨W.heap.size, 0, none⟩) m m) (W.alloc (.cells (madeCells #[.bool false] m) 4)) := fun W =>
  run_make_row' 33 4 (.bool false) 1 Try.underlying33 infoB rfl .i64 .i64 m (by omega) (by omega) W
theorem bools_R (W : World) (m : Nat) (hm : m ≤ 1000000) : Kd.R Kd.bool 4 (W.alloc (.cells (madeCells #[.bool false] m) 4)) W.heap.size (fun _ => True) (.slice (some ⟨W.heap.size, 0, none⟩) m m) (List.replicate m false) := by
  have h := World.ownsRow_lit (base := W.heap.size) (e := 4) (size := 1) W (madeCells #[.bool false] m) m (Nat.le_refl _) (by unfold maxLen; omega) (by simp [size_madeCells])
  have hl : (madeCells #[Value.bool false] m).toList = encs Value.bool (List.replicate m false) := by
    apply List.ext_getElem
    · simp [encs, madeCells]
    · intro i h1 h2
      simp [encs, madeCells, Nat.mod_one]
  rw [hl] at h
  exact Kd.R_of_own (by rw [List.length_replicate]; exact h) (fun _ _ => trivial)
set_option maxRecDepth 100000 in
set_option maxHeartbeats 8000000 in
theorem kept_law (w : World) (fl : Files) (A0 : Option Addr) (n0 c0 : Nat) (h0 : kFiles.K w fl [.slice A0 n0 c0]) (g0 : goodFiles fl) (l : List Op1) (A : Option Addr) (n c : Nat) (h : kOps.K w l [.slice A n c]) (gl : goodOps l) (all : Bool) :
    Calls Try.prog 8 #[.slice A0 n0 c0, .slice A n c, .bool all] w fun e w' => e = .returned (.bool true) ∧ Below w.heap.size w w' := by
  obtain ⟨e0, lc0, hC0⟩ := files_open h0
  obtain ⟨en, lc, hC⟩ := ops_open h
  have hnb : n ≤ 140737488351232 := by have := gl.1; omega
  have hnb0 : n0 ≤ 140737488351232 := by have := g0.1; omega
  have HG := Lib.hid (And.intro gl g0)
  have HC := Lib.hid (And.intro hC hC0)
  have HN := Lib.hid (And.intro en e0)
  clear h h0 gl g0 hC hC0 en e0
  go_enter Try.func8, Try.ntmps8
  go_wp2_with fail
  refine (head_any w).mono ?_
  rintro r w1 ⟨rfl, hB1⟩
  have HB1 := Lib.hid hB1
  clear hB1
  go_wp2_with fail
  refine (of_any 1048576 w w1 HB1.out (fun _ => False) (fun _ h => h.elim) A0 n0 c0 fl HN.out.2 HG.out.2 (Kd.C_below HC.out.2 HB1.out)).mono ?_
  rintro r w2 ⟨⟨rfl, _⟩ | ⟨g, fs, rfl, hof, hl5, hD2⟩, hB2⟩
  · have HB2 := Lib.hid (HB1.out.trans (hB2.mono HB1.out.size))
    clear hB2 HB1
    go_wp2_with fail
    go_ret
    exact ⟨rfl, HB2.out⟩
  have HD2 := Lib.hid hD2
  have HOF := Lib.hid (And.intro hof hl5)
  clear hD2 hB2 HB1 hof hl5
  go_wp2_with fail
  refine (greatFiles_any A0 n0 c0 fl w2 HN.out.2 hnb0 (Kd.C_below HC.out.2 HD2.out.hB)).mono ?_
  rintro r w3 ⟨⟨q, rfl, hq⟩, hB3⟩
  have HD3 := Lib.hid (HD2.out.below hB3)
  have HQ := Lib.hid hq
  clear hB3 HD2 hq
  cases q with
  | true =>
    go_wp2_with fail
    go_ret
    exact ⟨rfl, HD3.out.hB⟩
  | false =>
    go_wp2_with fail
    refine (great_any A n c l w3 HN.out.1 hnb (Kd.C_below HC.out.1 HD3.out.hB)).mono ?_
    rintro r w4 ⟨⟨q, rfl, hq⟩, hB4⟩
    have HD4 := Lib.hid (HD3.out.below hB4)
    have HQ2 := Lib.hid hq
    clear hB4 HD3 hq
    cases q with
    | true =>
      go_wp2_with fail
      go_ret
      exact ⟨rfl, HD4.out.hB⟩
    | false =>
      have hn3 : n ≤ 300 := HQ2.out rfl
      have h0 : SmallI 512 (ofD 1048576 fs) := SmallI.of HOF.out.1 HOF.out.2 (by omega)
      have H0 := Lib.hid h0
      clear HQ HQ2 h0
      go_wp2_with fail
      refine (files_F HD4.out (H0.out.small (by omega))).mono ?_
      rintro r w5 ⟨v5, rfl, hR5, hB5⟩
      have hD5 := HD4.out.keep hB5
      have hR5' : kFile.R 49 w5 w.heap.size (Since (fun _ => False) w4 w5) v5 fs := Kd.R_lower (Kd.R_mono (Kd.R_bound hR5) (fun k hk => .inr ⟨hk.2.1, hk.2.2.1⟩)) HD4.out.hB.size
      have hF5 : ∀ k, Since (fun _ => False) w4 w5 k → w.heap.size ≤ k := fun k hk => by
        rcases hk with hk | hk
        · exact hk.elim
        · have := HD4.out.hB.size
          omega
      have H5 := Lib.hid (And.intro hD5 (And.intro hR5' hF5))
      clear hR5 hB5 hD5 hR5' hF5
      go_wp2_with fail
      go_loopw [9, 10] (fun vs vi wr => ∃ (i : Nat) (d : D) (F : Nat → Prop), vi = .int .i64 (i : Int) ∧ i ≤ n ∧ DiskF w wr F g d ∧ SmallI (i + 512) d ∧ Replays d ∧ d.ch.length ≤ i ∧ kFile.R 49 wr w.heap.size F vs d.old ∧ (∀ k, F k → w.heap.size ≤ k)) (fun _ vi _ => n - (Lib.intOf vi).toNat)
      case atStart => exact ⟨0, _, _, rfl, Nat.zero_le _, H5.out.1, H0.out, crashF_nil _ _, Nat.le_refl _, H5.out.2.1, H5.out.2.2⟩
      case round =>
        obtain ⟨i, d, F, rfl, hi, hD, hS, hRp, hch, hR, hF⟩ := hrel
        by_cases hin : i < n
        · have d1 : (i : Int) < (n : Int) := by omega
          obtain ⟨o, ho⟩ : ∃ x, l[i]? = some x := ⟨_, List.getElem?_eq_getElem (by have := HN.out.1; omega)⟩
          obtain ⟨ad, Ab, Ak', cb, ck', e, x0, x1, x2, x3, x4, x5, x6⟩ := at_op (Kd.C_below HC.out.1 hD.hB) i hin o ho
          subst e
          have hgo : goodOp o := HG.out.1.2 o (List.mem_of_getElem? ho)
          have hcl := does_G hD (hS.small (by omega)) o hgo Ab Ak' cb ck' o.b.length o.keep.length rfl rfl x6
          have hS' := hS.does o hgo
          have hold := does_old d o
          have hrp' : o.what < 5 → Replays (doesD d o) := fun h => hRp.does o h
          have hch' : o.what < 5 → (doesD d o).ch.length ≤ i + 1 := fun h => by have := does_room d o h; omega
          obtain ⟨ee, hee⟩ : ∃ e, e = doesE d o := ⟨_, rfl⟩
          obtain ⟨d', hd'⟩ : ∃ d', d' = doesD d o := ⟨_, rfl⟩
          rw [← hd'] at hS' hrp' hch'
          rw [← hee, ← hd'] at hcl hold
          have HOP := Lib.hid ho
          obtain ⟨nb, hnb'⟩ : ∃ q, q = o.b.length := ⟨_, rfl⟩
          obtain ⟨nk', hnk'⟩ : ∃ q, q = o.keep.length := ⟨_, rfl⟩
          obtain ⟨sa, hsa⟩ : ∃ q, q = o.a := ⟨_, rfl⟩
          obtain ⟨st, hst⟩ : ∃ q, q = o.tn := ⟨_, rfl⟩
          obtain ⟨wh, hwh⟩ : ∃ q, q = o.what := ⟨_, rfl⟩
          obtain ⟨nn, hnn⟩ : ∃ q, q = o.n := ⟨_, rfl⟩
          rw [← hwh, ← hsa, ← hst, ← hnb', ← hnk', ← hnn] at hcl
          rw [← hwh] at x0 hold hrp' hch'
          rw [← hsa] at x1
          rw [← hst] at x2
          rw [← hnb'] at x3
          rw [← hnn] at x4
          rw [← hnk'] at x5
          have HCL := Lib.hid hcl
          have HIN := Lib.hid (And.intro hold (And.intro hrp' (And.intro hch' hS')))
          have HWH := Lib.hid hwh
          have HDd := Lib.hid (And.intro hD (And.intro hS (And.intro hRp (And.intro hch (And.intro hR hF)))))
          clear hcl hD hS hRp hch hR hF x6 ho hgo hd' hee hnb' hnk' hsa hst hwh hnn hold hrp' hch' hS'
          by_cases h5 : wh < 5
          · go_wp2_with fail
            refine HCL.out.mono ?_
            rintro r w7 ⟨rfl, hD7, hT7⟩
            have HD7 := Lib.hid hD7
            have HR7 := Lib.hid (row_stays HDd.out.2.2.2.2.1 hT7)
            obtain ⟨ad', Ab', Ak2, cb', ck2, e', y0, _, _, _, _, _, _⟩ := at_op (Kd.C_below HC.out.1 hD7.hB) i hin o HOP.out
            obtain rfl : ad = ad' := Option.some.inj e'
            rw [← HWH.out] at y0
            have HI2 := Lib.hid (And.intro (HIN.out.1 h5) (And.intro (HIN.out.2.1 h5) (And.intro (HIN.out.2.2.1 h5) HIN.out.2.2.2)))
            clear hD7 hT7 HCL x0 x1 x2 x3 x4 x5 e' HIN
            by_cases h4 : wh = 4
            · have h4' : (wh == 4) = true := by rw [h4]; rfl
              by_cases he : ee = 0
              · have he' : (ee == 0) = true := by rw [he]; rfl
                have hold := HI2.out.1.1 h4 he
                have HOLD := Lib.hid hold
                clear hold h4 he
                go_wp2_with fail
                refine (files_F HD7.out (HI2.out.2.2.2.small (by omega))).mono ?_
                rintro r w8 ⟨v8, rfl, hR8, hB8⟩
                have hD8 := (HD7.out.less (F' := fun _ => False) (fun k h => h.elim)).keep hB8
                have hR8' : kFile.R 49 w8 w.heap.size (Since (fun _ => False) w7 w8) v8 d'.old := by
                  rw [HOLD.out]
                  exact Kd.R_lower (Kd.R_mono (Kd.R_bound hR8) (fun k hk => .inr ⟨hk.2.1, hk.2.2.1⟩)) HD7.out.hB.size
                have hF8 : ∀ k, Since (fun _ => False) w7 w8 k → w.heap.size ≤ k := fun k hk => by
                  rcases hk with hk | hk
                  · exact hk.elim
                  · have := HD7.out.hB.size
                    omega
                have H8 := Lib.hid (And.intro hD8 (And.intro hR8' hF8))
                clear hR8 hB8 hD8 hR8' hF8
                go_wp2_with fail
                refine ⟨⟨i + 1, d', _, by simp, by omega, H8.out.1, HI2.out.2.2.2.le (by omega), HI2.out.2.1, HI2.out.2.2.1, H8.out.2.1, H8.out.2.2⟩, ?_⟩
                simp [Lib.intOf]
                omega
              · have he' : (ee == 0) = false := by simpa using he
                have hold := HI2.out.1.2 (fun h => he h.2)
                have HOLD := Lib.hid hold
                clear hold h4 he
                go_wp2_with fail
                refine ⟨⟨i + 1, d', F, by simp, by omega, HD7.out, HI2.out.2.2.2.le (by omega), HI2.out.2.1, HI2.out.2.2.1, by rw [HOLD.out]; exact HR7.out, HDd.out.2.2.2.2.2⟩, ?_⟩
                simp [Lib.intOf]
                omega
            · have h4' : (wh == 4) = false := by simpa using h4
              have hold := HI2.out.1.2 (fun h => h4 h.1)
              have HOLD := Lib.hid hold
              clear hold h4
              go_wp2_with fail
              refine ⟨⟨i + 1, d', F, by simp, by omega, HD7.out, HI2.out.2.2.2.le (by omega), HI2.out.2.1, HI2.out.2.2.1, by rw [HOLD.out]; exact HR7.out, HDd.out.2.2.2.2.2⟩, ?_⟩
              simp [Lib.intOf]
              omega
          · clear HCL x1 x2 x3 x4 x5
            go_wp2_with fail
            refine ⟨⟨i + 1, d, F, by simp, by omega, HDd.out.1, HDd.out.2.1.le (by omega), HDd.out.2.2.1, by have := HDd.out.2.2.2.1; omega, HDd.out.2.2.2.2.1, HDd.out.2.2.2.2.2⟩, ?_⟩
            simp [Lib.intOf]
            omega
        · have d1 : ¬ (i : Int) < (n : Int) := by omega
          have HD := Lib.hid hD
          have HSs := Lib.hid (And.intro (hS.small (by omega)) (hS.le (show i + 512 ≤ 1000 by omega)))
          have HRp := Lib.hid hRp
          have HR := Lib.hid hR
          have HF := Lib.hid hF
          obtain ⟨Av, cv, ev, _, _⟩ := Kd.R_reads hR
          obtain ⟨no, hno⟩ : ∃ k, k = d.old.length := ⟨_, rfl⟩
          rw [← hno] at ev
          subst ev
          obtain ⟨m, hm⟩ : ∃ m, m = d.ch.length := ⟨_, rfl⟩
          have hm3 : m ≤ 300 := by omega
          have HM := Lib.hid (And.intro hm hno)
          clear hD hS hRp hR hF hch hm hno
          go_wp2_with fail
          refine (files_F HD.out HSs.out.1).mono ?_
          rintro r w5 ⟨v5, rfl, hR5, hB5⟩
          have hD5 := HD.out.keep hB5
          have hR5' : kFile.R 49 w5 w.heap.size (Since F wr w5) v5 d.now := Kd.R_lower (Kd.R_mono (Kd.R_bound hR5) (fun k hk => .inr ⟨hk.2.1, hk.2.2.1⟩)) HD.out.hB.size
          have hRo : kFile.R 49 w5 w.heap.size (Since F wr w5) (.slice Av no cv) d.old := Kd.R_mono (Kd.R_below HR.out hB5) (fun k hk => .inl hk)
          obtain ⟨Aw, cw, ew, _, _⟩ := Kd.R_reads hR5'
          obtain ⟨nw, hnw⟩ : ∃ k, k = d.now.length := ⟨_, rfl⟩
          rw [← hnw] at ew
          subst ew
          have HNW := Lib.hid hnw
          have H5 := Lib.hid (And.intro hD5 (And.intro hR5' hRo))
          clear hR5 hB5 hD5 hR5' hRo HD HR hnw
          go_wp2_with fail
          refine (loose_F H5.out.1).mono ?_
          rw [← HM.out.1]
          rintro r w6 ⟨rfl, e6⟩
          rw [e6]
          clear e6 w6
          have h400 : ¬ (400 : Int) < (m : Int) := by omega
          have hmx := max_is (m : Int) 0 (m : Int) (by omega)
          have hmkb := make_bools m (by omega)
          go_wp2_with fail
          obtain ⟨ks0, hks0⟩ : ∃ z : List Bool, z = List.replicate m false := ⟨_, rfl⟩
          go_loopw [15] (fun vj wr => ∃ j : Nat, vj = .int .i64 (j : Int) ∧ j ≤ m ∧ Below w5.heap.size w5 wr ∧ Kd.R Kd.bool 4 wr w5.heap.size (fun _ => True) (.slice (some ⟨w5.heap.size, 0, none⟩) m m) (List.replicate j all ++ List.replicate (m - j) false)) (fun vj _ => m - (Lib.intOf vj).toNat)
          case atStart => exact ⟨0, rfl, Nat.zero_le _, (Below.refl _ _).alloc (Nat.le_refl _) _, by simpa using bools_R w5 m (by omega)⟩
          case round =>
            obtain ⟨j, rfl, hj, hBj, hRj⟩ := hrel
            by_cases hjm : j < m
            · have d2 : (j : Int) < (m : Int) := by omega
              have hll : (List.replicate j all ++ List.replicate (m - j) false).length = m := by simp; omega
              have hput := Kd.R_putn hRj (j : Int) all
              have hcl := Kd.R_cell (cap := m) false (by rw [hll]; exact hRj) (j : Int) (by omega) (by rw [hll]; omega)
              rw [Int.toNat_natCast] at hput hcl

              rw [show (List.replicate j all ++ List.replicate (m - j) false).set j all = List.replicate (j + 1) all ++ List.replicate (m - (j + 1)) false from set_next j m all hjm] at hput
              have hkl : w5.heap.size < wr.heap.size := Kd.R_lt hRj _ rfl
              have hbj := hBj.setCell (p := ⟨w5.heap.size, j, none⟩) (Nat.le_refl _) (.bool all)
              have HP := Lib.hid (And.intro hbj hput)
              obtain ⟨c1, c2⟩ := hcl
              clear hput hbj hRj hBj
              go_wp2_with fail
              refine ⟨⟨j + 1, by simp, by omega, HP.out.1, HP.out.2⟩, ?_⟩
              simp [Lib.intOf]
              omega
            · have hje : j = m := by omega
              have d2 : ¬ (j : Int) < (m : Int) := by omega
              have hRk : Kd.R Kd.bool 4 wr w5.heap.size (fun _ => True) (.slice (some ⟨w5.heap.size, 0, none⟩) m m) (List.replicate m all) := by
                have h := hRj
                rw [hje, Nat.sub_self, List.replicate_zero, List.append_nil] at h
                exact h
              have hCk := (Kd.R_reads' hRk).2.2
              rw [List.length_replicate] at hCk
              have HD6 := Lib.hid (H5.out.1.below hBj)
              have HCK := Lib.hid hCk
              have HRS := Lib.hid (And.intro (Kd.R_below H5.out.2.1 hBj) (Kd.R_below H5.out.2.2 hBj))
              clear hRj hBj hRk hCk
              go_wp2_with fail
              refine (crash_F HD6.out HSs.out.1 _ m m (List.replicate m all) List.length_replicate HCK.out).mono ?_
              rintro r w8 ⟨rfl, hD8, hT8⟩
              have HD8 := Lib.hid hD8
              have HRT := Lib.hid (And.intro (row_stays HRS.out.1 hT8) (row_stays HRS.out.2 hT8))
              have HSC := Lib.hid ((HSs.out.2.crash (List.replicate m all)).small (by omega))
              clear hD8 hT8 HD6 HCK HRS
              cases all with
              | true =>
                have hnow : (crashD d (List.replicate m true)).now = d.now := by
                  show crashF d.old d.ch (List.replicate m true) = d.now
                  rw [HM.out.1]
                  exact HRp.out
                have HNOW := Lib.hid (And.intro hnow (show nw ≤ 1000000 by rw [HNW.out]; exact HSs.out.1.now))
                clear hnow
                go_wp2_with fail
                refine (files_F HD8.out HSC.out).mono ?_
                rw [HNOW.out.1]
                rintro r w9 ⟨v9, rfl, hR9, hB9⟩
                obtain ⟨A9, c9, e9, _, hC9⟩ := Kd.R_reads hR9
                subst e9
                rw [← HNW.out] at hC9 ⊢
                have hCo : Kd.C kFile w9 Aw nw d.now := by
                  have h := (Kd.R_reads' (Kd.R_below HRT.out.1 hB9)).2.2
                  rw [← HNW.out] at h
                  exact h
                have HD9 := Lib.hid (HD8.out.below hB9)
                have HSA := Lib.hid (same_true w9 d.now A9 Aw nw c9 cw HNW.out HNOW.out.2 hC9 hCo)
                clear hR9 hB9 hC9 hCo HD8
                go_wp2_with fail
                refine HSA.out.mono ?_
                rintro r wa ⟨rfl, hBa⟩
                have HDa := Lib.hid (HD9.out.below hBa)
                clear hBa HSA HD9
                go_wp2_with fail
                refine (loose_F HDa.out).mono ?_
                rintro r wb ⟨rfl, eb⟩
                rw [eb]
                clear eb wb
                have hz : ((crashD d (List.replicate m true)).ch.length : Int) = 0 := rfl
                rw [hz]
                clear hz
                go_wp2_with fail
                go_ret
                exact ⟨by simp, HDa.out.hB⟩
              | false =>
                have hnow : (crashD d (List.replicate m false)).now = d.old := by
                  show crashF d.old d.ch (List.replicate m false) = d.old
                  exact crash_none _ _ _
                have HNOW := Lib.hid (And.intro hnow (show no ≤ 1000000 by rw [HM.out.2]; exact HSs.out.1.old))
                clear hnow
                go_wp2_with fail
                refine (files_F HD8.out HSC.out).mono ?_
                rw [HNOW.out.1]
                rintro r w9 ⟨v9, rfl, hR9, hB9⟩
                obtain ⟨A9, c9, e9, _, hC9⟩ := Kd.R_reads hR9
                subst e9
                rw [← HM.out.2] at hC9 ⊢
                have hCo : Kd.C kFile w9 Av no d.old := by
                  have h := (Kd.R_reads' (Kd.R_below HRT.out.2 hB9)).2.2
                  rw [← HM.out.2] at h
                  exact h
                have HD9 := Lib.hid (HD8.out.below hB9)
                have HSA := Lib.hid (same_true w9 d.old A9 Av no c9 cv HM.out.2 HNOW.out.2 hC9 hCo)
                clear hR9 hB9 hC9 hCo HD8
                go_wp2_with fail
                refine HSA.out.mono ?_
                rintro r wa ⟨rfl, hBa⟩
                have HDa := Lib.hid (HD9.out.below hBa)
                clear hBa HSA HD9
                go_wp2_with fail
                refine (loose_F HDa.out).mono ?_
                rintro r wb ⟨rfl, eb⟩
                rw [eb]
                clear eb wb
                have hz : ((crashD d (List.replicate m false)).ch.length : Int) = 0 := rfl
                rw [hz]
                clear hz
                go_wp2_with fail
                go_ret
                exact ⟨by simp, HDa.out.hB⟩
end Go.Proofs.Ytbfpmlblnfablaa
