/- Chapter 01: DiskFuse. -/
import Derived.Test.YtbfpmlblnfablaaDiskV
set_option linter.unusedVariables false
set_option linter.unusedSimpArgs false
namespace Go.Proofs.Ytbfpmlblnfablaa
open Go.RowKit Go.Proofs.YtbfpmlblnfablaaW.PrintWords Go.Proofs.YtbfpmlblnfablaaW.PrintLast Go.Proofs.YtbfpmlblnfablaaW.PrintMore

/-- A disk with a fuse of k: what was done, and what is left. -/
structure Fused (k : Int) (d : D) : Prop where
  left : 0 ≤ d.fuse
  sum : d.acts + d.fuse = k
  off : d.down = true → d.fuse = 0
section
variable {k : Int} {d : D}
theorem Fused.act (h : Fused k d) (code : Int) (c : Chg) : Fused k (actD d code c) := by
  unfold actD
  split
  · rename_i ho
    refine ⟨h.left, h.sum, fun _ => ?_⟩
    unfold offD at ho
    rcases Bool.or_eq_true_iff.1 ho with h' | h'
    · exact h.off h'
    · exact of_decide_eq_true h'
  · rename_i ho
    have hf : d.fuse ≠ 0 := fun e => ho (by unfold offD; simp [e])
    split
    · refine ⟨?_, ?_, fun h' => (by cases h')⟩
      · show 0 ≤ max (d.fuse - 1) (-1)
        have := h.left
        omega
      · show d.acts + 1 + max (d.fuse - 1) (-1) = k
        have := h.left
        have := h.sum
        omega
    · exact h
theorem Fused.sync (h : Fused k d) : Fused k (syncD d) := by
  unfold syncD
  split
  · rename_i ho
    refine ⟨h.left, h.sum, fun _ => ?_⟩
    unfold offD at ho
    rcases Bool.or_eq_true_iff.1 ho with h' | h'
    · exact h.off h'
    · exact of_decide_eq_true h'
  · rename_i ho
    have hf : d.fuse ≠ 0 := fun e => ho (by unfold offD; simp [e])
    refine ⟨?_, ?_, fun h' => (by cases h')⟩
    · show 0 ≤ max (d.fuse - 1) (-1)
      have := h.left
      omega
    · show d.acts + 1 + max (d.fuse - 1) (-1) = k
      have := h.left
      have := h.sum
      omega
theorem Fused.does (h : Fused k d) (o : Op1) (ho : o.what < 5) : Fused k (doesD d o) := by
  unfold doesD
  split
  · exact h.act _ _
  · split
    · exact h.act _ _
    · split
      · exact h.act _ _
      · split
        · exact h.act _ _
        · split
          · exact h.sync
          · rw [if_neg (by omega), if_neg (by omega)]
            exact h
theorem Fused.start {n : Int} (hn : 0 ≤ n) : Fused n (fuseD (newD 1048576) n) := ⟨by show 0 ≤ max n (-1); omega, by show 0 + max n (-1) = n; omega, fun h => (by cases h)⟩
end
theorem crash_on (d : D) (ks : List Bool) : (crashD d ks).down = false ∧ offD (crashD d ks) = false := ⟨rfl, rfl⟩
theorem u8_of (x : Int) (h : (Lit.int .u8 x).wf = true) : ∃ n : Nat, x = (n : Int) ∧ n < 256 := by
  have hw : 0 ≤ x ∧ x < 256 := by
    simp [Lit.wf, IntKind.min, IntKind.max, IntKind.bits, IntKind.signed] at h
    omega
  exact ⟨x.toNat, by omega, by omega⟩
/-- The call of a round: does, at the Op that was loaded. -/
theorem does_G {w0 w : World} {F : Nat → Prop} {g : Nat} {d : D} (h : DiskF w0 w F g d) (hsm : Small d) (o : Op1) (go : goodOp o) (Ab Ak : Option Addr) (cb ck nb nk : Nat) (hnb : nb = o.b.length) (hnk : nk = o.keep.length) (hr : OpRow w o Ab Ak cb ck) :
    Calls Try.prog 20 #[pt g, .agg #[.int .i64 o.what, .string o.a, .string o.tn, .slice Ab nb cb, .int .i64 o.n, .slice Ak nk ck]] w fun r w' => r = .returned (.int .i64 (doesE d o)) ∧ DiskF w0 w' F g (doesD d o) ∧ Turns (Own w0 F) w w' := by
  subst hnb hnk
  exact does_F h hsm o go Ab Ak cb ck hr
set_option maxRecDepth 100000 in
set_option maxHeartbeats 4000000 in
theorem fuse_law (w : World) (ki : Int) (wk : (Lit.int .u8 ki).wf = true) (l : List Op1) (A : Option Addr) (n c : Nat) (h : kOps.K w l [.slice A n c]) (gl : goodOps l) (ks : List Bool) (Ak : Option Addr) (nk ck : Nat) (hk : (Kd.slice 4 Kd.bool).K w ks [.slice Ak nk ck]) (gk : goodK ks) :
    Calls Try.prog 5 #[.int .u8 ki, .slice A n c, .slice Ak nk ck] w fun e w' => e = .returned (.bool true) ∧ Below w.heap.size w w' := by
  obtain ⟨k, rfl, hk8⟩ := u8_of ki wk
  obtain ⟨en, lc, hC⟩ := ops_open h
  obtain ⟨ek, lk, hCk⟩ := keep_open hk
  have hnb : n ≤ 140737488351232 := by have := gl.1; omega
  have HG := Lib.hid gl
  have HC := Lib.hid hC
  have HK := Lib.hid (And.intro ek hCk)
  have HN := Lib.hid en
  have hkI : (k : Int) ≤ 255 := by omega
  clear h hk gl gk hC hCk wk ek en
  go_enter Try.func5, Try.ntmps5
  go_wp2_with fail
  refine (head_any w).mono ?_
  rintro r w1 ⟨rfl, hB1⟩
  have HB1 := Lib.hid hB1
  clear hB1
  go_wp2_with fail
  refine (new_F 1048576 w w1 HB1.out (fun _ => False) (fun _ h => h.elim)).mono ?_
  rintro r w2 ⟨g, rfl, hD2, _⟩
  have HD2 := Lib.hid hD2
  clear hD2 HB1
  go_wp2_with fail
  refine (great_any A n c l w2 HN.out hnb (Kd.C_below HC.out HD2.out.hB)).mono ?_
  rintro r w3 ⟨⟨q, rfl, hq⟩, hB3⟩
  have HD3 := Lib.hid (HD2.out.below hB3)
  have HQ := Lib.hid hq
  clear hB3 HD2 hq
  cases q with
  | true =>
    go_wp2_with fail
    go_ret
    exact ⟨rfl, HD3.out.hB⟩
  | false =>
    have hn3 : n ≤ 300 := HQ.out rfl
    clear HQ
    go_wp2_with fail
    refine (fuse_F HD3.out (k : Int)).mono ?_
    rintro r w4 ⟨rfl, hD4, _⟩
    have HD4 := Lib.hid hD4
    have h0 : SmallI 1 (fuseD (newD 1048576) (k : Int)) := (SmallI.new 1048576 (by omega)).fuseI _ (by omega)
    have H0 := Lib.hid h0
    clear hD4 HD3 h0
    go_wp2_with fail
    go_loopw [9] (fun v wr => ∃ (i : Nat) (d : D), v = .int .i64 (i : Int) ∧ i ≤ n ∧ DiskF w wr (fun _ => False) g d ∧ SmallI (i + 1) d ∧ Fused (k : Int) d) (fun v _ => n - (Lib.intOf v).toNat)
    case atStart => exact ⟨0, _, rfl, Nat.zero_le _, HD4.out, H0.out, Fused.start (by omega)⟩
    case round =>
      obtain ⟨i, d, rfl, hi, hD, hS, hF⟩ := hrel
      by_cases hin : i < n
      · have d1 : (i : Int) < (n : Int) := by omega
        obtain ⟨o, ho⟩ : ∃ x, l[i]? = some x := ⟨_, List.getElem?_eq_getElem (by have := HN.out; omega)⟩
        obtain ⟨ad, Ab, Ak', cb, ck', e, x0, x1, x2, x3, x4, x5, x6⟩ := at_op (Kd.C_below HC.out hD.hB) i hin o ho
        subst e
        have hgo : goodOp o := HG.out.2 o (List.mem_of_getElem? ho)
        obtain ⟨d', hd'⟩ : ∃ d', d' = if o.what < 5 then doesD d o else d := ⟨_, rfl⟩
        have hS' : SmallI (i + 2) d' := by
          rw [hd']
          split
          · exact hS.does o hgo
          · exact hS.le (by omega)
        have hF' : Fused (k : Int) d' := by
          rw [hd']
          split
          · rename_i h5; exact hF.does o h5
          · exact hF
        have hle : d'.acts ≤ (k : Int) := by have := hF'.sum; have := hF'.left; omega
        have hdn : d'.down = true → d'.acts = (k : Int) := fun h => by have := hF'.off h; have := hF'.sum; omega
        have hcl := does_G hD (hS.small (by omega)) o hgo Ab Ak' cb ck' o.b.length o.keep.length rfl rfl x6
        obtain ⟨nb, hnb'⟩ : ∃ q, q = o.b.length := ⟨_, rfl⟩
        obtain ⟨nk', hnk'⟩ : ∃ q, q = o.keep.length := ⟨_, rfl⟩
        obtain ⟨sa, hsa⟩ : ∃ q, q = o.a := ⟨_, rfl⟩
        obtain ⟨st, hst⟩ : ∃ q, q = o.tn := ⟨_, rfl⟩
        obtain ⟨wh, hwh⟩ : ∃ q, q = o.what := ⟨_, rfl⟩
        obtain ⟨nn, hnn⟩ : ∃ q, q = o.n := ⟨_, rfl⟩
        rw [← hwh, ← hsa, ← hst, ← hnb', ← hnk', ← hnn] at hcl
        rw [← hwh] at x0 hd'
        rw [← hsa] at x1
        rw [← hst] at x2
        rw [← hnb'] at x3
        rw [← hnn] at x4
        rw [← hnk'] at x5
        have HCL := Lib.hid hcl
        have HDd := Lib.hid hD
        have HD' := Lib.hid hd'
        have HR := Lib.hid (And.intro hS' (And.intro hF' (And.intro hle hdn)))
        clear hcl hD hS hF hS' hF' hle hdn x6 ho hgo hd' hnb' hnk' hsa hst hwh hnn
        obtain ⟨ac, hac⟩ : ∃ a, a = d'.acts := ⟨_, rfl⟩
        obtain ⟨dn, hdn⟩ : ∃ b, b = d'.down := ⟨_, rfl⟩
        have HAC := Lib.hid (And.intro hac hdn)
        have hle : ¬ (k : Int) < ac := by rw [hac]; have := HR.out.2.2.1; omega
        have hek : dn = true → (ac != (k : Int)) = false := fun e => by
          rw [hac, HR.out.2.2.2 (by rw [← hdn]; exact e)]
          simp
        clear hac hdn
        by_cases h5 : wh < 5
        · have HD'' := Lib.hid (HD'.out.trans (if_pos h5))
          go_wp2_with fail
          refine HCL.out.mono ?_
          rintro r w5 ⟨rfl, hD5, _⟩
          have HD5 := Lib.hid (show DiskF w w5 (fun _ => False) g d' by rw [HD''.out]; exact hD5)
          clear hD5 HDd HCL HD' HD'' x0 x1 x2 x3 x4 x5 h5
          go_wp2_with fail
          refine (acts_F HD5.out).mono ?_
          rw [← HAC.out.1]
          rintro r w6 ⟨rfl, e6⟩
          rw [e6]
          clear e6 w6
          go_wp2_with fail
          refine (down_F HD5.out).mono ?_
          rw [← HAC.out.2]
          rintro r w6 ⟨rfl, e6⟩
          rw [e6]
          clear e6 w6
          cases dn with
          | false =>
            go_wp2_with fail
            go_roundw
            case rel => exact ⟨i + 1, d', by simp, by omega, HD5.out, HR.out.1, HR.out.2.1⟩
            case measure => simp [Lib.intOf]; omega
          | true =>
            have he2 := hek rfl
            clear hek
            go_wp2_with fail
            refine (acts_F HD5.out).mono ?_
            rw [← HAC.out.1]
            rintro r w6 ⟨rfl, e6⟩
            rw [e6]
            clear e6 w6
            go_wp2_with fail
            go_roundw
            case rel => exact ⟨i + 1, d', by simp, by omega, HD5.out, HR.out.1, HR.out.2.1⟩
            case measure => simp [Lib.intOf]; omega
        · have HD'' := Lib.hid (HD'.out.trans (if_neg h5))
          have HD5 := Lib.hid (show DiskF w wr (fun _ => False) g d' by rw [HD''.out]; exact HDd.out)
          clear HDd HCL HD' HD'' x1 x2 x3 x4 x5
          go_wp2_with fail
          refine (acts_F HD5.out).mono ?_
          rw [← HAC.out.1]
          rintro r w6 ⟨rfl, e6⟩
          rw [e6]
          clear e6 w6
          go_wp2_with fail
          refine (down_F HD5.out).mono ?_
          rw [← HAC.out.2]
          rintro r w6 ⟨rfl, e6⟩
          rw [e6]
          clear e6 w6
          cases dn with
          | false =>
            go_wp2_with fail
            go_roundw
            case rel => exact ⟨i + 1, d', by simp, by omega, HD5.out, HR.out.1, HR.out.2.1⟩
            case measure => simp [Lib.intOf]; omega
          | true =>
            have he2 := hek rfl
            clear hek
            go_wp2_with fail
            refine (acts_F HD5.out).mono ?_
            rw [← HAC.out.1]
            rintro r w6 ⟨rfl, e6⟩
            rw [e6]
            clear e6 w6
            go_wp2_with fail
            go_roundw
            case rel => exact ⟨i + 1, d', by simp, by omega, HD5.out, HR.out.1, HR.out.2.1⟩
            case measure => simp [Lib.intOf]; omega
      · have d1 : ¬ (i : Int) < (n : Int) := by omega
        have HDd := Lib.hid hD
        have HSs := Lib.hid (hS.small (by omega))
        have HSc := Lib.hid ((hS.crash ks).small (by omega))
        clear hD hS hF
        go_wp2_with fail
        refine (crash_F HDd.out HSs.out Ak nk ck ks HK.out.1.symm (Kd.C_below HK.out.2 HDd.out.hB)).mono ?_
        rintro r w5 ⟨rfl, hD5, _⟩
        have HD5 := Lib.hid hD5
        clear hD5 HDd
        go_wp2_with fail
        refine (down_F HD5.out).mono ?_
        rw [(crash_on d ks).1]
        rintro r w6 ⟨rfl, e6⟩
        rw [e6]
        clear e6 w6
        go_wp2_with fail
        refine (sync_F HD5.out HSc.out).mono ?_
        rw [(sync_ok (crash_on d ks).2).1, (sync_ok (crash_on d ks).2).2]
        rintro r w7 ⟨rfl, hD7, _⟩
        have hlo := loose_F hD7
        rw [show ({ ranD (crashD d ks) with old := (crashD d ks).now, ch := [] } : D).ch.length = 0 from rfl] at hlo
        have HL := Lib.hid hlo
        have HD7 := Lib.hid hD7.hB
        clear hD7 HD5 hlo
        go_wp2_with fail
        refine HL.out.mono ?_
        rintro r w8 ⟨rfl, e8⟩
        rw [e8]
        clear e8 w8
        go_wp2_with fail
        go_ret
        exact ⟨by simp, HD7.out⟩
end Go.Proofs.Ytbfpmlblnfablaa
