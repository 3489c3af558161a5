/- A move of the pair: sends and ticks. -/
import Derived.Test.YthfgkkpibkkiaaaDoorSessX
set_option linter.unusedVariables false
set_option linter.unusedSimpArgs false
namespace Go.Proofs.YthfgkkpibkkiaaaDoor
open Go.RowKit Go.Proofs.YthfgkkpibkkiaaaDoorW.PrintWords Go.Proofs.YthfgkkpibkkiaaaDoorW.PrintLast Go.Proofs.YthfgkkpibkkiaaaDoor.PSessionPlays

structure Caps (p : Pr) : Prop where
  as_ : p.a.sent.length ≤ 64
  bs : p.b.sent.length ≤ 64
  ac : p.a.came.length ≤ 1000000
  bc : p.b.came.length ≤ 1000000
  at_ : p.a.there ≤ 1000000
  bt : p.b.there ≤ 1000000
  asz : ∀ l ∈ p.a.sent, l.length ≤ 140737488351232
  bsz : ∀ l ∈ p.b.sent, l.length ≤ 140737488351232
  ll : p.l.length ≤ 200
  lsz : ∀ x ∈ p.l, x.2.f4.length ≤ 140737488351232
  sl : p.s.length ≤ 1000
  tl : p.t.length ≤ 1000
/-- The move in its box. -/
def MBox (w : World) (mb : Nat) (m : Mv) (D : Option Addr) (dn dc : Nat) : Prop := w.heap[mb]? = some (.cells #[.int .i64 m.what, .bool m.who, .int .i64 m.at_, .slice D dn dc] 59 (0, 0))
theorem MBox.cells {w : World} {mb : Nat} {m : Mv} {D : Option Addr} {dn dc : Nat} (h : MBox w mb m D dn dc) : w.cell? ⟨mb, 0, none⟩ = some (.int .i64 m.what) ∧ w.cell? ⟨mb, 1, none⟩ = some (.bool m.who) ∧ w.cell? ⟨mb, 2, none⟩ = some (.int .i64 m.at_) ∧ w.cell? ⟨mb, 3, none⟩ = some (.slice D dn dc) := by
  obtain ⟨a, b, c, d, _⟩ := cells4 h
  exact ⟨a, b, c, d⟩
theorem since_set {F : Nat → Prop} {w w9 : World} {q : Addr} {v : Value} : Since F w (w9.setCell q v) = Since F w w9 := by
  funext k
  unfold Since
  rw [show (w9.setCell q v).heap.size = w9.heap.size from by simp [World.setCell]]
def StepEnd (w1 : World) (pb g1 g2 : Nat) (p : Pr) (r : Ending) (w' : World) : Prop := (∃ v, r = .returned v) ∧ PairAt w1 w' pb g1 g2 p
set_option maxRecDepth 100000 in
set_option maxHeartbeats 8000000 in
theorem step_send (w1 w : World) (pb g1 g2 : Nat) (p : Pr) (h : PairAt w1 w pb g1 g2 p) (hc : Caps p) (m : Mv) (D : Option Addr) (dn dc : Nat) (hv : View w1 (D, dn, dc) m.data) (hdn : dn ≤ 140737488351232) (hlo : m.what < 2) :
    Calls Tryd.prog 30 #[.pointer (some ⟨pb, 0, none⟩), .agg #[.int .i64 m.what, .bool m.who, .int .i64 m.at_, .slice D dn dc]] w fun r w' => StepEnd w1 pb g1 g2 (pstep p m) r w' := by
  obtain ⟨F, hT, vl, vs, vt, Fl, Fs, Ft, us, ut, hP⟩ := h
  obtain ⟨wa, hwa⟩ : ∃ wa, wa = w.alloc (.cells #[.int .i64 m.what, .bool m.who, .int .i64 m.at_, .slice D dn dc] 59) := ⟨_, rfl⟩
  have hBa : Below w.heap.size w wa := by rw [hwa]; exact (Below.refl _ _).alloc (Nat.le_refl _) _
  have hMb : MBox wa w.heap.size m D dn dc := by unfold MBox; rw [hwa]; exact heap_alloc_new w _
  have hno : ∀ k, F k → k ≠ w.heap.size := fun k h' e => by have := (hP.fb _ h').2; omega
  have hT2 := hT.keep hBa
  have hP2 := hP.wide hBa hT.hB.size
  have hF2 : Since F w wa w.heap.size := .inr ⟨Nat.le_refl _, blk_lt hMb⟩
  have hne : w.heap.size ≠ pb ∧ ¬ Fl w.heap.size ∧ ¬ Fs w.heap.size ∧ ¬ Ft w.heap.size := ⟨fun e => hno pb hP.pF e.symm, fun h' => hno _ (hP.fl _ h').1 rfl, fun h' => hno _ (hP.fs _ h').1 rfl, fun h' => hno _ (hP.ft _ h').1 rfl⟩
  obtain ⟨F2, hFF⟩ : ∃ F2, F2 = Since F w wa := ⟨_, rfl⟩
  obtain ⟨mb, hmb⟩ : ∃ mb, mb = w.heap.size := ⟨_, rfl⟩
  rw [← hFF] at hT2 hP2 hF2
  rw [← hmb] at hMb hF2 hne
  have HW := Lib.hid (And.intro hwa hmb)
  have HT := Lib.hid hT2
  have HP := Lib.hid hP2
  have HM := Lib.hid hMb
  have HF := Lib.hid (And.intro hF2 hne)
  have HV := Lib.hid hv
  have HC := Lib.hid hc
  obtain ⟨m0, m1, m2, m3⟩ := hMb.cells
  obtain ⟨p0, p1, p2, p3, p4⟩ := HP.out.cells
  have hlm := blk_lt hMb
  have hlp := blk_lt HP.out.blk
  clear hwa hBa hMb hT hP hv hc hmb hT2 hP2 hF2 hne hno hFF
  go_enter Tryd.func30, Tryd.ntmps30
  go_upto_region 1 with (fail)
  rw [← HW.out.1, ← HW.out.2]
  cases hq : m.who with
  | true =>
    clear hlm hlp m0 m1 m2 m3 p0 p1 p2 p3 p4
    obtain ⟨m0, m1, m2, m3⟩ := HM.out.cells
    rw [hq] at m1
    obtain ⟨p0, p1, p2, p3, p4⟩ := HP.out.cells
    have hlm := blk_lt HM.out
    have hlp := blk_lt HP.out.blk
    have HQ := Lib.hid hq
    clear hq
    go_wp2_with fail
    have hsd := (HT.out).step (fun S h => send_any wa w1.heap.size g1 S p.a h HC.out.as_ D dn dc m.data HV.out.1 (Kd.C_below HV.out.2.2 HT.out.hB) HV.out.2.1 hdn)
    have HSD := Lib.hid hsd
    clear hsd
    refine HSD.out.mono ?_
    rintro r w3 ⟨rfl, hT3, hTu⟩
    have HP3 := Lib.hid (HP.out.step hTu (fun i hi => hi.2))
    have HM3 := Lib.hid (show MBox w3 mb m D dn dc from (hTu.block mb hlm (fun h' => h'.2 HF.out.1)).trans HM.out)
    have HT3 := Lib.hid hT3
    clear hT3 hTu HSD m0 m1 m2 m3 p0 p1 p2 p3 p4 hlm hlp
    obtain ⟨m0, m1, m2, m3⟩ := HM3.out.cells
    rw [HQ.out] at m1
    obtain ⟨p0, p1, p2, p3, p4⟩ := HP3.out.cells
    have hlm := blk_lt HM3.out
    have hlp := blk_lt HP3.out.blk
    obtain ⟨q, hqq⟩ : ∃ q, q = sendOk p.a m.data := ⟨_, rfl⟩
    rw [← hqq]
    have HOK := Lib.hid hqq
    clear hqq
    cases q with
    | false =>
      go_wp2_with fail
      try simp only [Exit.inBlock, Exit.then]
      first | (refine bodyPost_ret (results_none rfl _ _ _) rfl ?_) | (refine bodyPost_end (results_none rfl _ _ _) rfl ?_)
      refine ⟨⟨_, rfl⟩, ?_⟩
      have he : sendE p.a m.data = p.a := by unfold sendE; rw [if_neg (by rw [← HOK.out]; simp)]
      have hp : pstep p m = p := by unfold pstep; rw [if_pos hlo, HQ.out]; simp [← HOK.out]
      rw [hp]
      have ht := HT3.out
      rw [he] at ht
      exact ⟨_, ht, _, _, _, _, _, _, _, _, HP3.out⟩
    | true =>
      have HPS := Lib.hid (show pstep p m = { p with a := sendE p.a m.data, s := p.s ++ [m.data] } from by unfold pstep; rw [if_pos hlo, HQ.out]; simp [← HOK.out])
      go_upto_region 7 with (fail)
      refine start_ (S := fun w' => Below w3.heap.size w3 w' ∧ w'.cell? ⟨pb, 3, none⟩ = some vs ∧ w'.cell? ⟨mb, 3, none⟩ = some (.slice D dn dc)) (ds := [8, 9, 10, 11]) (n := 12) #[false, false, false, false, false, false, false, false, false, false, false, false] rfl rfl rfl ?hS0 (fun hHeld => ?hrun)
      case hS0 => exact ⟨(Below.refl _ _).drew, p3, m3⟩
      case hrun =>
        refine pure_ (i := 0) (N := some 32) (v := ?_) (a' := ?_) #[true, false, false, false, false, false, false, false, false, false, false, false] rfl rfl (by kernel_rfl) (fun _ _ _ h => h) (Or.inl ⟨by rfl, ?_⟩) ?_ ?_
        rotate_left
        · intro w'
          go_simp
          first | done | with_reducible rfl
        rotate_left
        · simp only [Act.put, List.setIfInBounds_toArray, List.set_cons_zero, List.set_cons_succ, i64_w, i32_w]
          rfl
        refine pure_ (i := 1) (N := some 33) (v := ?_) (a' := ?_) #[true, true, false, false, false, false, false, false, false, false, false, false] rfl rfl (by kernel_rfl) (fun _ _ _ h => h) (Or.inl ⟨by rfl, ?_⟩) ?_ ?_
        rotate_left
        · intro w'
          go_simp
          first | done | with_reducible rfl
        rotate_left
        · simp only [Act.put, List.setIfInBounds_toArray, List.set_cons_zero, List.set_cons_succ, i64_w, i32_w]
          rfl
        refine pure_ (i := 2) (N := some 34) (v := ?_) (a' := ?_) #[true, true, true, false, false, false, false, false, false, false, false, false] rfl rfl (by kernel_rfl) (fun _ _ _ h => h) (Or.inl ⟨by rfl, ?_⟩) ?_ ?_
        rotate_left
        · intro w'
          go_simp
          first | done | with_reducible rfl
        rotate_left
        · simp only [Act.put, List.setIfInBounds_toArray, List.set_cons_zero, List.set_cons_succ, i64_w, i32_w]
          rfl
        refine pure_ (i := 3) (N := some 35) (v := ?_) (a' := ?_) #[true, true, true, true, false, false, false, false, false, false, false, false] rfl rfl (by kernel_rfl) (fun _ _ _ h => h) (Or.inl ⟨by rfl, ?_⟩) ?_ ?_
        rotate_left
        · intro w'
          go_simp
          first | done | with_reducible rfl
        rotate_left
        · simp only [Act.put, List.setIfInBounds_toArray, List.set_cons_zero, List.set_cons_succ, i64_w, i32_w]
          rfl
        refine take_ (i := 4) (N := some 36) (v := ?_) (a' := ?_) #[true, true, true, true, true, false, false, false, false, false, false, false] rfl rfl (by kernel_rfl) (fun _ _ _ h => h) (Or.inl ⟨by rfl, ?_⟩) hHeld ?_ ?_
        rotate_left
        · rintro w' ⟨hbe, s0, s1⟩
          go_simp
          first | done | with_reducible rfl
        rotate_left
        · simp only [Act.put, List.setIfInBounds_toArray, List.set_cons_zero, List.set_cons_succ, i64_w, i32_w]
          rfl
        refine pure_ (i := 5) (N := some 37) (v := ?_) (a' := ?_) #[true, true, true, true, true, true, false, false, false, false, false, false] rfl rfl (by kernel_rfl) (fun _ _ _ h => h) (Or.inl ⟨by rfl, ?_⟩) ?_ ?_
        rotate_left
        · intro w'
          go_simp
          first | done | with_reducible rfl
        rotate_left
        · simp only [Act.put, List.setIfInBounds_toArray, List.set_cons_zero, List.set_cons_succ, i64_w, i32_w]
          rfl
        refine take_ (i := 6) (N := some 38) (v := ?_) (a' := ?_) #[true, true, true, true, true, true, true, false, false, false, false, false] rfl rfl (by kernel_rfl) (fun _ _ _ h => h) (Or.inl ⟨by rfl, ?_⟩) hHeld ?_ ?_
        rotate_left
        · rintro w' ⟨hbe, s0, s1⟩
          go_simp
          first | done | with_reducible rfl
        rotate_left
        · simp only [Act.put, List.setIfInBounds_toArray, List.set_cons_zero, List.set_cons_succ, i64_w, i32_w]
          rfl
        refine one_ (i := 7) (N := some 39) #[true, true, true, true, true, true, true, true, false, false, false, false] rfl rfl (by kernel_rfl) (by decide) (fun K hK => ?_)
        refine value_ (by rfl) rfl (by go_simp; first | rfl | exact ⟨rfl, rfl⟩) ?_
        have hb7 : Below w3.heap.size w3 (w3.alloc (.cells #[.slice D dn dc] 22)).drew := ((Below.refl w3.heap.size w3).alloc (Nat.le_refl _) _).drew
        refine hK.out _ _ ⟨hb7, pw_cell_below hb7 p3, pw_cell_below hb7 m3⟩ (fun hHeld1 => ?_)
        clear hK K
        refine norm_ (a' := ?_) ?_ ?_
        rotate_left
        · show Act.put _ (some 39) _ = _
          simp only [Act.put, List.setIfInBounds_toArray, List.set_cons_zero, List.set_cons_succ, i64_w, i32_w]
          rfl
        refine tail_list 8 (t := [8, 9, 10, 11]) (fuel := 0) rfl rfl rfl (by kernel_rfl) (by decide) ?_
        have hB3 := HT3.out.hB
        refine Kd.R_append kSl (w0 := w1) (W := w3.drew) w1.heap.size rfl _ _ 45 22 (.slice none 0 0) 24 rfl Tryd.underlying45 infoT rfl (by decide) (by decide) vs us (D, dn, dc) [.slice D dn dc] (fun k => Fs k ∨ w3.heap.size ≤ k) (fun _ => False) rfl rfl ?hp ?hokp ?hfresh ?HO ?HB ?hb2 ?hl2 ?hk2
        case hp => rfl
        case hokp => exact fun k hk => hk.elim
        case hfresh => exact fun k hk => .inr hk
        case HO => exact Kd.R_drew (Kd.R_mono HP3.out.rs (fun k hk => .inl hk))
        case HB => exact hB3.drew
        case hb2 => exact hB3.size
        case hl2 =>
          have h1 := HP3.out.ws.1
          have h2 := HC.out.sl
          omega
        case hk2 =>
          intro v1 w9 hR1 _ hg9 _
          obtain ⟨hp9, hTF, hP9⟩ := HP3.out.growS (v := (D, dn, dc)) (x := m.data) hB3.size hR1 ⟨hg9.os, hg9.tape, hg9.output, hg9.size, hg9.block⟩ HV.out
          obtain ⟨_, _, q2, q3, q4⟩ := cells5 hp9
          have hf9 := blk_frozen hp9 3
          have hl9 := blk_lt hp9
          have HP9 := Lib.hid hP9
          have HT9 := Lib.hid (HT3.out.widen hTF (fun i hi => (HP3.out.fb i hi).1))
          obtain ⟨A1, c1', rfl⟩ := Kd.R_slice hR1
          clear hp9 hTF hP9 hR1 hg9 hHeld hHeld1 p0 p1 p2 p3 p4 m0 m1 m2 m3 hlm hlp
          go_wp2_with fail
          try simp only [Exit.inBlock, Exit.then]
          first | (refine bodyPost_ret (results_none rfl _ _ _) rfl ?_) | (refine bodyPost_end (results_none rfl _ _ _) rfl ?_)
          refine ⟨⟨_, rfl⟩, ?_⟩
          rw [HPS.out]
          have ht := HT9.out
          have hp := HP9.out
          rw [since_set] at ht
          rw [show (us ++ [((D, dn, dc) : SV)]).length = us.length + 1 from by simp] at ht hp
          exact ⟨_, ht, _, _, _, _, _, _, _, _, hp⟩
  | false =>
    clear hlm hlp m0 m1 m2 m3 p0 p1 p2 p3 p4
    obtain ⟨m0, m1, m2, m3⟩ := HM.out.cells
    rw [hq] at m1
    obtain ⟨p0, p1, p2, p3, p4⟩ := HP.out.cells
    have hlm := blk_lt HM.out
    have hlp := blk_lt HP.out.blk
    have HQ := Lib.hid hq
    clear hq
    go_wp2_with fail
    have hsd := (HT.out.swap).step (fun S h => send_any wa w1.heap.size g2 S p.b h HC.out.bs D dn dc m.data HV.out.1 (Kd.C_below HV.out.2.2 HT.out.hB) HV.out.2.1 hdn)
    have HSD := Lib.hid hsd
    clear hsd
    refine HSD.out.mono ?_
    rintro r w3 ⟨rfl, hT3, hTu⟩
    have HP3 := Lib.hid (HP.out.step hTu (fun i hi => hi.2))
    have HM3 := Lib.hid (show MBox w3 mb m D dn dc from (hTu.block mb hlm (fun h' => h'.2 HF.out.1)).trans HM.out)
    have HT3 := Lib.hid hT3
    clear hT3 hTu HSD m0 m1 m2 m3 p0 p1 p2 p3 p4 hlm hlp
    obtain ⟨m0, m1, m2, m3⟩ := HM3.out.cells
    rw [HQ.out] at m1
    obtain ⟨p0, p1, p2, p3, p4⟩ := HP3.out.cells
    have hlm := blk_lt HM3.out
    have hlp := blk_lt HP3.out.blk
    obtain ⟨q, hqq⟩ : ∃ q, q = sendOk p.b m.data := ⟨_, rfl⟩
    rw [← hqq]
    have HOK := Lib.hid hqq
    clear hqq
    cases q with
    | false =>
      go_wp2_with fail
      try simp only [Exit.inBlock, Exit.then]
      first | (refine bodyPost_ret (results_none rfl _ _ _) rfl ?_) | (refine bodyPost_end (results_none rfl _ _ _) rfl ?_)
      refine ⟨⟨_, rfl⟩, ?_⟩
      have he : sendE p.b m.data = p.b := by unfold sendE; rw [if_neg (by rw [← HOK.out]; simp)]
      have hp : pstep p m = p := by unfold pstep; rw [if_pos hlo, HQ.out]; simp [← HOK.out]
      rw [hp]
      have ht := HT3.out.swap
      rw [he] at ht
      exact ⟨_, ht, _, _, _, _, _, _, _, _, HP3.out⟩
    | true =>
      have HPS := Lib.hid (show pstep p m = { p with b := sendE p.b m.data, t := p.t ++ [m.data] } from by unfold pstep; rw [if_pos hlo, HQ.out]; simp [← HOK.out])
      go_upto_region 9 with (fail)
      refine start_ (S := fun w' => Below w3.heap.size w3 w' ∧ w'.cell? ⟨pb, 4, none⟩ = some vt ∧ w'.cell? ⟨mb, 3, none⟩ = some (.slice D dn dc)) (ds := [8, 9, 10, 11]) (n := 12) #[false, false, false, false, false, false, false, false, false, false, false, false] rfl rfl rfl ?hS0 (fun hHeld => ?hrun)
      case hS0 => exact ⟨(Below.refl _ _).drew, p4, m3⟩
      case hrun =>
        refine pure_ (i := 0) (N := some 44) (v := ?_) (a' := ?_) #[true, false, false, false, false, false, false, false, false, false, false, false] rfl rfl (by kernel_rfl) (fun _ _ _ h => h) (Or.inl ⟨by rfl, ?_⟩) ?_ ?_
        rotate_left
        · intro w'
          go_simp
          first | done | with_reducible rfl
        rotate_left
        · simp only [Act.put, List.setIfInBounds_toArray, List.set_cons_zero, List.set_cons_succ, i64_w, i32_w]
          rfl
        refine pure_ (i := 1) (N := some 45) (v := ?_) (a' := ?_) #[true, true, false, false, false, false, false, false, false, false, false, false] rfl rfl (by kernel_rfl) (fun _ _ _ h => h) (Or.inl ⟨by rfl, ?_⟩) ?_ ?_
        rotate_left
        · intro w'
          go_simp
          first | done | with_reducible rfl
        rotate_left
        · simp only [Act.put, List.setIfInBounds_toArray, List.set_cons_zero, List.set_cons_succ, i64_w, i32_w]
          rfl
        refine pure_ (i := 2) (N := some 46) (v := ?_) (a' := ?_) #[true, true, true, false, false, false, false, false, false, false, false, false] rfl rfl (by kernel_rfl) (fun _ _ _ h => h) (Or.inl ⟨by rfl, ?_⟩) ?_ ?_
        rotate_left
        · intro w'
          go_simp
          first | done | with_reducible rfl
        rotate_left
        · simp only [Act.put, List.setIfInBounds_toArray, List.set_cons_zero, List.set_cons_succ, i64_w, i32_w]
          rfl
        refine pure_ (i := 3) (N := some 47) (v := ?_) (a' := ?_) #[true, true, true, true, false, false, false, false, false, false, false, false] rfl rfl (by kernel_rfl) (fun _ _ _ h => h) (Or.inl ⟨by rfl, ?_⟩) ?_ ?_
        rotate_left
        · intro w'
          go_simp
          first | done | with_reducible rfl
        rotate_left
        · simp only [Act.put, List.setIfInBounds_toArray, List.set_cons_zero, List.set_cons_succ, i64_w, i32_w]
          rfl
        refine take_ (i := 4) (N := some 48) (v := ?_) (a' := ?_) #[true, true, true, true, true, false, false, false, false, false, false, false] rfl rfl (by kernel_rfl) (fun _ _ _ h => h) (Or.inl ⟨by rfl, ?_⟩) hHeld ?_ ?_
        rotate_left
        · rintro w' ⟨hbe, s0, s1⟩
          go_simp
          first | done | with_reducible rfl
        rotate_left
        · simp only [Act.put, List.setIfInBounds_toArray, List.set_cons_zero, List.set_cons_succ, i64_w, i32_w]
          rfl
        refine pure_ (i := 5) (N := some 49) (v := ?_) (a' := ?_) #[true, true, true, true, true, true, false, false, false, false, false, false] rfl rfl (by kernel_rfl) (fun _ _ _ h => h) (Or.inl ⟨by rfl, ?_⟩) ?_ ?_
        rotate_left
        · intro w'
          go_simp
          first | done | with_reducible rfl
        rotate_left
        · simp only [Act.put, List.setIfInBounds_toArray, List.set_cons_zero, List.set_cons_succ, i64_w, i32_w]
          rfl
        refine take_ (i := 6) (N := some 50) (v := ?_) (a' := ?_) #[true, true, true, true, true, true, true, false, false, false, false, false] rfl rfl (by kernel_rfl) (fun _ _ _ h => h) (Or.inl ⟨by rfl, ?_⟩) hHeld ?_ ?_
        rotate_left
        · rintro w' ⟨hbe, s0, s1⟩
          go_simp
          first | done | with_reducible rfl
        rotate_left
        · simp only [Act.put, List.setIfInBounds_toArray, List.set_cons_zero, List.set_cons_succ, i64_w, i32_w]
          rfl
        refine one_ (i := 7) (N := some 51) #[true, true, true, true, true, true, true, true, false, false, false, false] rfl rfl (by kernel_rfl) (by decide) (fun K hK => ?_)
        refine value_ (by rfl) rfl (by go_simp; first | rfl | exact ⟨rfl, rfl⟩) ?_
        have hb7 : Below w3.heap.size w3 (w3.alloc (.cells #[.slice D dn dc] 22)).drew := ((Below.refl w3.heap.size w3).alloc (Nat.le_refl _) _).drew
        refine hK.out _ _ ⟨hb7, pw_cell_below hb7 p4, pw_cell_below hb7 m3⟩ (fun hHeld1 => ?_)
        clear hK K
        refine norm_ (a' := ?_) ?_ ?_
        rotate_left
        · show Act.put _ (some 51) _ = _
          simp only [Act.put, List.setIfInBounds_toArray, List.set_cons_zero, List.set_cons_succ, i64_w, i32_w]
          rfl
        refine tail_list 8 (t := [8, 9, 10, 11]) (fuel := 0) rfl rfl rfl (by kernel_rfl) (by decide) ?_
        have hB3 := HT3.out.hB
        refine Kd.R_append kSl (w0 := w1) (W := w3.drew) w1.heap.size rfl _ _ 45 22 (.slice none 0 0) 24 rfl Tryd.underlying45 infoT rfl (by decide) (by decide) vt ut (D, dn, dc) [.slice D dn dc] (fun k => Ft k ∨ w3.heap.size ≤ k) (fun _ => False) rfl rfl ?hp ?hokp ?hfresh ?HO ?HB ?hb2 ?hl2 ?hk2
        case hp => rfl
        case hokp => exact fun k hk => hk.elim
        case hfresh => exact fun k hk => .inr hk
        case HO => exact Kd.R_drew (Kd.R_mono HP3.out.rt (fun k hk => .inl hk))
        case HB => exact hB3.drew
        case hb2 => exact hB3.size
        case hl2 =>
          have h1 := HP3.out.wt.1
          have h2 := HC.out.tl
          omega
        case hk2 =>
          intro v1 w9 hR1 _ hg9 _
          obtain ⟨hp9, hTF, hP9⟩ := HP3.out.growT (v := (D, dn, dc)) (x := m.data) hB3.size hR1 ⟨hg9.os, hg9.tape, hg9.output, hg9.size, hg9.block⟩ HV.out
          obtain ⟨_, _, q2, q3, q4⟩ := cells5 hp9
          have hf9 := blk_frozen hp9 4
          have hl9 := blk_lt hp9
          have HP9 := Lib.hid hP9
          have HT9 := Lib.hid (HT3.out.swap.widen hTF (fun i hi => (HP3.out.fb i hi).1))
          obtain ⟨A1, c1', rfl⟩ := Kd.R_slice hR1
          clear hp9 hTF hP9 hR1 hg9 hHeld hHeld1 p0 p1 p2 p3 p4 m0 m1 m2 m3 hlm hlp
          go_wp2_with fail
          try simp only [Exit.inBlock, Exit.then]
          first | (refine bodyPost_ret (results_none rfl _ _ _) rfl ?_) | (refine bodyPost_end (results_none rfl _ _ _) rfl ?_)
          refine ⟨⟨_, rfl⟩, ?_⟩
          rw [HPS.out]
          have ht := HT9.out
          have hp := HP9.out
          rw [since_set] at ht
          rw [show (ut ++ [((D, dn, dc) : SV)]).length = ut.length + 1 from by simp] at ht hp
          exact ⟨_, ht, _, _, _, _, _, _, _, _, hp⟩
end Go.Proofs.YthfgkkpibkkiaaaDoor
