/- A move of what is on its way. -/
import Derived.Test.YthfgkkpibkkiaaaDoorSessZ
set_option linter.unusedVariables false
set_option linter.unusedSimpArgs false
namespace Go.Proofs.YthfgkkpibkkiaaaDoor
open Go.RowKit Go.Proofs.YthfgkkpibkkiaaaDoorW.PrintWords Go.Proofs.YthfgkkpibkkiaaaDoorW.PrintLast Go.Proofs.YthfgkkpibkkiaaaDoor.PSessionPlays

theorem row_part {α : Type} {R : α → List Value → Prop} {size g n : Nat} {w : World} {ps : List α} (h : ReadsRow R size w (some ⟨g, 0, none⟩) n ps) (i m : Nat) (hm : i + m ≤ n) :
    ReadsRow R size w (some ⟨g, i * size, none⟩) m ((ps.drop i).take m) := by
  refine ⟨by have := h.1; simp; omega, by have := h.2.1; omega, fun hp => ⟨_, rfl, fun j p hj => ?_⟩⟩
  obtain ⟨ad, e, hc⟩ := h.2.2 (by omega)
  obtain rfl : (⟨g, 0, none⟩ : Addr) = ad := Option.some.inj e
  have hj' : j < m := by have := (List.getElem?_eq_some_iff.1 hj).1; simp at this; omega
  rw [List.getElem?_take, if_pos hj', List.getElem?_drop] at hj
  obtain ⟨c, hs, hr, hcell⟩ := hc (i + j) p hj
  refine ⟨c, hs, hr, fun k u hu => ?_⟩
  have := hcell k u hu
  rw [show (⟨g, i * size, none⟩ : Addr) = (⟨g, 0, none⟩ : Addr).add (i * size) from (add_plain _ _).symm, Go.Deep.add_add, ← this]
  congr 2
  rw [Nat.add_mul]
  omega
theorem kFly_M_of {w : World} {base : Nat} {ok : Nat → Prop} {v : Value} {L : List (Bool × S24)} (h : Kd.R kFly 80 w base ok v L) {g cap : Nat} (hv : v = .slice (some ⟨g, 0, none⟩) L.length cap) :
    ReadsRow (kFly.M w base ok) 6 w (some ⟨g, 0, none⟩) L.length L := by
  obtain ⟨_, hO⟩ := h
  obtain ⟨A, c, e, _, hr⟩ := OwnRow.reads hO
  rw [hv] at e
  injection e with e
  subst e
  exact hr.imp_ (Below.refl _ _) (fun p c hp => kFly.M_mono (fun k hk => hk.1) hp)
theorem empty_fly {w : World} {base : Nat} {ok : Nat → Prop} (hb : base ≤ w.heap.size) (hok : ok w.heap.size) : Kd.R kFly 80 (w.alloc (.cells #[] 80)) base ok (.slice (some ⟨w.heap.size, 0, none⟩) 0 0) [] :=
  ⟨fun k hk => by simp [Value.ownBlock] at hk; subst hk; exact hok, [], World.ownsRow_made (base := base) (e := 80) (size := 6) w #[] 0 hb (by decide) rfl, rfl, fun j p hj => by simp at hj⟩
def FlyBox (w : World) (fb : Nat) (x : Bool × S24) (A : Option Addr) (n c : Nat) : Prop := w.heap[fb]? = some (.cells #[.bool x.1, .int .i64 x.2.f0, .int .i64 x.2.f1, .bool x.2.f2, .int .i64 x.2.f3, .slice A n c] 80 (0, 0))
theorem FlyBox.cells {w : World} {fb : Nat} {x : Bool × S24} {A : Option Addr} {n c : Nat} (h : FlyBox w fb x A n c) : w.cell? ⟨fb, 0, none⟩ = some (.bool x.1) ∧ w.cell? ⟨fb, 1, none⟩ = some (.int .i64 x.2.f0) ∧ w.cell? ⟨fb, 2, none⟩ = some (.int .i64 x.2.f1) ∧ w.cell? ⟨fb, 3, none⟩ = some (.bool x.2.f2) ∧ w.cell? ⟨fb, 4, none⟩ = some (.int .i64 x.2.f3) ∧ w.cell? ⟨fb, 5, none⟩ = some (.slice A n c) :=
  ⟨by simpa using blk_cell h 0, by simpa using blk_cell h 1, by simpa using blk_cell h 2, by simpa using blk_cell h 3, by simpa using blk_cell h 4, by simpa using blk_cell h 5⟩
set_option maxRecDepth 100000 in
set_option maxHeartbeats 8000000 in
theorem step_none (w1 w : World) (pb g1 g2 : Nat) (p : Pr) (h : PairAt w1 w pb g1 g2 p) (hc : Caps p) (m : Mv) (D : Option Addr) (dn dc : Nat) (hv : View w1 (D, dn, dc) m.data) (hdn : dn ≤ 140737488351232) (h1 : ¬ m.what < 2) (h2 : m.what ≠ 2) (h3 : p.l.length = 0 ∨ m.at_ < 0) :
    Calls Tryd.prog 30 #[.pointer (some ⟨pb, 0, none⟩), .agg #[.int .i64 m.what, .bool m.who, .int .i64 m.at_, .slice D dn dc]] w fun r w' => StepEnd w1 pb g1 g2 (pstep p m) r w' := by
  obtain ⟨F, hT, vl, vs, vt, Fl, Fs, Ft, us, ut, hP⟩ := h
  obtain ⟨wa, hwa⟩ : ∃ wa, wa = w.alloc (.cells #[.int .i64 m.what, .bool m.who, .int .i64 m.at_, .slice D dn dc] 59) := ⟨_, rfl⟩
  have hBa : Below w.heap.size w wa := by rw [hwa]; exact (Below.refl _ _).alloc (Nat.le_refl _) _
  have hMb : MBox wa w.heap.size m D dn dc := by unfold MBox; rw [hwa]; exact heap_alloc_new w _
  have hno : ∀ k, F k → k ≠ w.heap.size := fun k h' e => by have := (hP.fb _ h').2; omega
  have hT2 := hT.keep hBa
  have hP2 := hP.wide hBa hT.hB.size
  have hF2 : Since F w wa w.heap.size := .inr ⟨Nat.le_refl _, blk_lt hMb⟩
  have hne : w.heap.size ≠ pb ∧ ¬ Fl w.heap.size ∧ ¬ Fs w.heap.size ∧ ¬ Ft w.heap.size := ⟨fun e => hno pb hP.pF e.symm, fun h' => hno _ (hP.fl _ h').1 rfl, fun h' => hno _ (hP.fs _ h').1 rfl, fun h' => hno _ (hP.ft _ h').1 rfl⟩
  obtain ⟨F2, hFF⟩ : ∃ F2, F2 = Since F w wa := ⟨_, rfl⟩
  obtain ⟨mb, hmb⟩ : ∃ mb, mb = w.heap.size := ⟨_, rfl⟩
  rw [← hFF] at hT2 hP2 hF2
  rw [← hmb] at hMb hF2 hne
  have HW := Lib.hid (And.intro hwa hmb)
  have HT := Lib.hid hT2
  have HP := Lib.hid hP2
  have HM := Lib.hid hMb
  have HF := Lib.hid (And.intro hF2 hne)
  have HV := Lib.hid hv
  have HC := Lib.hid hc
  obtain ⟨m0, m1, m2, m3⟩ := hMb.cells
  obtain ⟨p0, p1, p2, p3, p4⟩ := HP.out.cells
  have hlm := blk_lt hMb
  have hlp := blk_lt HP.out.blk
  have d2 : (m.what == 2) = false := by rw [beq_eq_false_iff_ne]; exact h2
  have HPS := Lib.hid (show pstep p m = p from by unfold pstep; rw [if_neg h1, if_neg h2, if_pos h3])
  obtain ⟨Al, cl, rfl⟩ := Kd.R_slice hP.rl
  obtain ⟨N, hN⟩ : ∃ N, N = p.l.length := ⟨_, rfl⟩
  rw [← hN] at p2 h3
  have HN := Lib.hid hN
  have HW := HW
  clear hwa hBa hMb hT hP hv hc hmb hT2 hP2 hF2 hne hno hFF h2 hN
  go_enter Tryd.func30, Tryd.ntmps30
  go_upto_region 1 with (fail)
  rw [← HW.out.1, ← HW.out.2]
  cases hq : m.who with
  | true =>
    rw [hq] at m1
    have HQ := Lib.hid hq
    clear hq
    by_cases h0 : N = 0
    · have dN : ((N : Int) == 0) = true := by rw [beq_iff_eq]; omega
      clear h3 h0
      go_wp2_with fail
      try simp only [Exit.inBlock, Exit.then]
      first | (refine bodyPost_ret (results_none rfl _ _ _) rfl ?_) | (refine bodyPost_end (results_none rfl _ _ _) rfl ?_)
      refine ⟨⟨_, rfl⟩, ?_⟩
      rw [HPS.out]
      exact ⟨_, HT.out, _, _, _, _, _, _, _, _, HP.out⟩
    · have dN : ((N : Int) == 0) = false := by rw [beq_eq_false_iff_ne]; omega
      have dA : m.at_ < 0 := by omega
      clear h3 h0
      go_wp2_with fail
      try simp only [Exit.inBlock, Exit.then]
      first | (refine bodyPost_ret (results_none rfl _ _ _) rfl ?_) | (refine bodyPost_end (results_none rfl _ _ _) rfl ?_)
      refine ⟨⟨_, rfl⟩, ?_⟩
      rw [HPS.out]
      exact ⟨_, HT.out, _, _, _, _, _, _, _, _, HP.out⟩
  | false =>
    rw [hq] at m1
    have HQ := Lib.hid hq
    clear hq
    by_cases h0 : N = 0
    · have dN : ((N : Int) == 0) = true := by rw [beq_iff_eq]; omega
      clear h3 h0
      go_wp2_with fail
      try simp only [Exit.inBlock, Exit.then]
      first | (refine bodyPost_ret (results_none rfl _ _ _) rfl ?_) | (refine bodyPost_end (results_none rfl _ _ _) rfl ?_)
      refine ⟨⟨_, rfl⟩, ?_⟩
      rw [HPS.out]
      exact ⟨_, HT.out, _, _, _, _, _, _, _, _, HP.out⟩
    · have dN : ((N : Int) == 0) = false := by rw [beq_eq_false_iff_ne]; omega
      have dA : m.at_ < 0 := by omega
      clear h3 h0
      go_wp2_with fail
      try simp only [Exit.inBlock, Exit.then]
      first | (refine bodyPost_ret (results_none rfl _ _ _) rfl ?_) | (refine bodyPost_end (results_none rfl _ _ _) rfl ?_)
      refine ⟨⟨_, rfl⟩, ?_⟩
      rw [HPS.out]
      exact ⟨_, HT.out, _, _, _, _, _, _, _, _, HP.out⟩
set_option maxRecDepth 100000 in
set_option maxHeartbeats 8000000 in
theorem step_move (w1 w : World) (pb g1 g2 : Nat) (p : Pr) (h : PairAt w1 w pb g1 g2 p) (hc : Caps p) (m : Mv) (D : Option Addr) (dn dc : Nat) (hv : View w1 (D, dn, dc) m.data) (hdn : dn ≤ 140737488351232) (h1 : ¬ m.what < 2) (h2 : m.what ≠ 2) (h3 : 0 < p.l.length) (h4 : 0 ≤ m.at_) :
    Calls Tryd.prog 30 #[.pointer (some ⟨pb, 0, none⟩), .agg #[.int .i64 m.what, .bool m.who, .int .i64 m.at_, .slice D dn dc]] w fun r w' => StepEnd w1 pb g1 g2 (pstep p m) r w' := by
  obtain ⟨F, hT, vl, vs, vt, Fl, Fs, Ft, us, ut, hP⟩ := h
  obtain ⟨wa, hwa⟩ : ∃ wa, wa = w.alloc (.cells #[.int .i64 m.what, .bool m.who, .int .i64 m.at_, .slice D dn dc] 59) := ⟨_, rfl⟩
  have hBa : Below w.heap.size w wa := by rw [hwa]; exact (Below.refl _ _).alloc (Nat.le_refl _) _
  have hMb : MBox wa w.heap.size m D dn dc := by unfold MBox; rw [hwa]; exact heap_alloc_new w _
  have hno : ∀ k, F k → k ≠ w.heap.size := fun k h' e => by have := (hP.fb _ h').2; omega
  have hT2 := hT.keep hBa
  have hP2 := hP.wide hBa hT.hB.size
  have hF2 : Since F w wa w.heap.size := .inr ⟨Nat.le_refl _, blk_lt hMb⟩
  have hne : w.heap.size ≠ pb ∧ ¬ Fl w.heap.size ∧ ¬ Fs w.heap.size ∧ ¬ Ft w.heap.size := ⟨fun e => hno pb hP.pF e.symm, fun h' => hno _ (hP.fl _ h').1 rfl, fun h' => hno _ (hP.fs _ h').1 rfl, fun h' => hno _ (hP.ft _ h').1 rfl⟩
  obtain ⟨F2, hFF⟩ : ∃ F2, F2 = Since F w wa := ⟨_, rfl⟩
  obtain ⟨mb, hmb⟩ : ∃ mb, mb = w.heap.size := ⟨_, rfl⟩
  rw [← hFF] at hT2 hP2 hF2
  rw [← hmb] at hMb hF2 hne
  have HW := Lib.hid (And.intro hwa hmb)
  have HT := Lib.hid hT2
  have HP := Lib.hid hP2
  have HM := Lib.hid hMb
  have HF := Lib.hid (And.intro hF2 hne)
  have HV := Lib.hid hv
  have HC := Lib.hid hc
  obtain ⟨m0, m1, m2, m3⟩ := hMb.cells
  obtain ⟨p0, p1, p2, p3, p4⟩ := HP.out.cells
  have hlm := blk_lt hMb
  have hlp := blk_lt HP.out.blk
  have d2 : (m.what == 2) = false := by rw [beq_eq_false_iff_ne]; exact h2
  obtain ⟨gl, cl, hvl, hgb, hgl, _⟩ := Kd.R_form hP.rl h3
  subst hvl
  obtain ⟨N, hN⟩ : ∃ N, N = p.l.length := ⟨_, rfl⟩
  rw [← hN] at p2 h3
  obtain ⟨kq, hK⟩ : ∃ kq, kq = (m.at_ % (p.l.length : Int)).toNat := ⟨_, rfl⟩
  have hKN : kq < N := by
    have := Int.emod_lt_of_pos m.at_ (show (0 : Int) < (p.l.length : Int) by omega)
    have := Int.emod_nonneg m.at_ (show (p.l.length : Int) ≠ 0 by omega)
    omega
  have hmod : m.at_.tmod (N : Int) = (kq : Int) := by
    rw [Int.tmod_eq_emod_of_nonneg h4, hN, hK]
    exact (Int.toNat_of_nonneg (Int.emod_nonneg m.at_ (by omega))).symm
  obtain ⟨x, hx⟩ : ∃ x, p.l[kq]? = some x := ⟨_, List.getElem?_eq_getElem (by omega)⟩
  have HPS := Lib.hid (show pstep p m = moved p m kq x from by unfold pstep; rw [if_neg h1, if_neg h2, if_neg (by omega), ← hK, hx])
  have HN := Lib.hid hN
  have HX := Lib.hid hx
  have dN : ((N : Int) == 0) = false := by rw [beq_eq_false_iff_ne]; omega
  have dA : ¬ m.at_ < 0 := by omega
  clear hwa hBa hMb hT hP hv hc hmb hT2 hP2 hF2 hne hno hFF h2 hN hK hx h4
  go_enter Tryd.func30, Tryd.ntmps30
  go_upto_region 1 with (fail)
  rw [← HW.out.1, ← HW.out.2]
  cases hq : m.who with
  | true =>
    rw [hq] at m1
    have HQ := Lib.hid hq
    clear hq
    go_upto_region 17 with (fail)
    refine start_ (S := fun w' => Below wa.heap.size wa w' ∧ w'.cell? ⟨mb, 2, none⟩ = some (.int .i64 m.at_) ∧ w'.cell? ⟨pb, 2, none⟩ = some (.slice (some ⟨gl, 0, none⟩) N cl)) (ds := [8]) (n := 9) #[false, false, false, false, false, false, false, false, false] rfl rfl rfl ?hS0 (fun hHeld => ?hrun)
    case hS0 => exact ⟨(Below.refl _ _).drew, m2, p2⟩
    case hrun =>
      refine pure_ (i := 0) (N := some 102) (v := ?_) (a' := ?_) #[true, false, false, false, false, false, false, false, false] rfl rfl (by kernel_rfl) (fun _ _ _ h => h) (Or.inl ⟨by rfl, ?_⟩) ?_ ?_
      rotate_left
      · intro w'
        go_simp
        first | done | with_reducible rfl
      rotate_left
      · simp only [Act.put, List.setIfInBounds_toArray, List.set_cons_zero, List.set_cons_succ, i64_w, i32_w]
        rfl
      refine take_ (i := 1) (N := some 103) (v := ?_) (a' := ?_) #[true, true, false, false, false, false, false, false, false] rfl rfl (by kernel_rfl) (fun _ _ _ h => h) (Or.inl ⟨by rfl, ?_⟩) hHeld ?_ ?_
      rotate_left
      · rintro w' ⟨hbe, s0, s1⟩
        go_simp
        first | done | with_reducible rfl
      rotate_left
      · simp only [Act.put, List.setIfInBounds_toArray, List.set_cons_zero, List.set_cons_succ, i64_w, i32_w]
        rfl
      refine pure_ (i := 2) (N := some 104) (v := ?_) (a' := ?_) #[true, true, true, false, false, false, false, false, false] rfl rfl (by kernel_rfl) (fun _ _ _ h => h) (Or.inl ⟨by rfl, ?_⟩) ?_ ?_
      rotate_left
      · intro w'
        go_simp
        first | done | with_reducible rfl
      rotate_left
      · simp only [Act.put, List.setIfInBounds_toArray, List.set_cons_zero, List.set_cons_succ, i64_w, i32_w]
        rfl
      refine pure_ (i := 3) (N := some 105) (v := ?_) (a' := ?_) #[true, true, true, true, false, false, false, false, false] rfl rfl (by kernel_rfl) (fun _ _ _ h => h) (Or.inl ⟨by rfl, ?_⟩) ?_ ?_
      rotate_left
      · intro w'
        go_simp
        first | done | with_reducible rfl
      rotate_left
      · simp only [Act.put, List.setIfInBounds_toArray, List.set_cons_zero, List.set_cons_succ, i64_w, i32_w]
        rfl
      refine pure_ (i := 4) (N := some 106) (v := ?_) (a' := ?_) #[true, true, true, true, true, false, false, false, false] rfl rfl (by kernel_rfl) (fun _ _ _ h => h) (Or.inl ⟨by rfl, ?_⟩) ?_ ?_
      rotate_left
      · intro w'
        go_simp
        first | done | with_reducible rfl
      rotate_left
      · simp only [Act.put, List.setIfInBounds_toArray, List.set_cons_zero, List.set_cons_succ, i64_w, i32_w]
        rfl
      refine take_ (i := 5) (N := some 107) (v := ?_) (a' := ?_) #[true, true, true, true, true, true, false, false, false] rfl rfl (by kernel_rfl) (fun _ _ _ h => h) (Or.inl ⟨by rfl, ?_⟩) hHeld ?_ ?_
      rotate_left
      · rintro w' ⟨hbe, s0, s1⟩
        go_simp
        first | done | with_reducible rfl
      rotate_left
      · simp only [Act.put, List.setIfInBounds_toArray, List.set_cons_zero, List.set_cons_succ, i64_w, i32_w]
        rfl
      refine pure_ (i := 6) (N := some 108) (v := ?_) (a' := ?_) #[true, true, true, true, true, true, true, false, false] rfl rfl (by kernel_rfl) (fun _ _ _ h => h) (Or.inl ⟨by rfl, ?_⟩) ?_ ?_
      rotate_left
      · intro w'
        go_simp
        first | done | with_reducible rfl
      rotate_left
      · simp only [Act.put, List.setIfInBounds_toArray, List.set_cons_zero, List.set_cons_succ, i64_w, i32_w]
        rfl
      refine pure_ (i := 7) (N := some 109) (v := ?_) (a' := ?_) #[true, true, true, true, true, true, true, true, false] rfl rfl (by kernel_rfl) (fun _ _ _ h => h) (Or.inl ⟨by rfl, ?_⟩) ?_ ?_
      rotate_left
      · intro w'
        go_simp; rw [if_neg (by omega)]
        first | done | with_reducible rfl
      rotate_left
      · simp only [Act.put, List.setIfInBounds_toArray, List.set_cons_zero, List.set_cons_succ, i64_w, i32_w]
        rfl
      refine tail_list 8 (t := [8]) (fuel := 0) rfl rfl rfl (by kernel_rfl) (by decide) ?_
      obtain ⟨w2, hw2⟩ : ∃ w2, w2 = wa.drew := ⟨_, rfl⟩
      have hB2 : Below wa.heap.size wa w2 := by rw [hw2]; exact (Below.refl _ _).drew
      rw [← hw2]
      have HT2 := Lib.hid (HT.out.below hB2)
      have HP2 := Lib.hid (HP.out.below hB2)
      have HM2 := Lib.hid (show MBox w2 mb m D dn dc from blk_below HM.out hB2)
      clear hHeld m0 m1 m2 m3 p0 p1 p2 p3 p4 hlm hlp hw2 hB2 HT HP HM hgl hmod dA dN
      obtain ⟨cx, _, hM, hcx, _⟩ := Kd.R_elem HP2.out.rl (false, z24) (kq : Int) (by omega) (by rw [← HN.out]; omega)
      rw [Int.toNat_natCast, List.getD_eq_getElem?_getD, HX.out] at hM
      have hMx : kFly.M w2 w1.heap.size (fun k => Fl k ∧ k ≠ gl) x cx := hM
      obtain ⟨cs1, cs2, rfl, hb1, hM2⟩ := hMx
      have hb1' : cs1 = [.bool x.1] := hb1
      subst hb1'
      have hM3 : k24.M w2 w1.heap.size (fun k => Fl k ∧ k ≠ gl) x.2 cs2 := hM2
      obtain ⟨v4, rfl, hR4⟩ := k24_openM hM3
      have HD2 := Lib.hid (Kd.R_mono (ok' := Fl) hR4 (fun k hk => hk.1))
      obtain ⟨A4, c4, rfl⟩ := Kd.R_slice hR4
      obtain ⟨n4, hn4⟩ : ∃ n, n = x.2.f4.length := ⟨_, rfl⟩
      simp only [Int.toNat_natCast] at hcx
      rw [← hn4] at HD2 hcx
      have HN4 := Lib.hid hn4.symm
      have x0 : w2.cell? ⟨gl, kq * 6, none⟩ = some (.bool x.1) := hcx 0 _ rfl
      have x1 : w2.cell? ⟨gl, kq * 6 + 1, none⟩ = some (.int .i64 x.2.f0) := hcx 1 _ rfl
      have x2 : w2.cell? ⟨gl, kq * 6 + 2, none⟩ = some (.int .i64 x.2.f1) := hcx 2 _ rfl
      have x3 : w2.cell? ⟨gl, kq * 6 + 3, none⟩ = some (.bool x.2.f2) := hcx 3 _ rfl
      have x4 : w2.cell? ⟨gl, kq * 6 + 4, none⟩ = some (.int .i64 x.2.f3) := hcx 4 _ rfl
      have x5 : w2.cell? ⟨gl, kq * 6 + 5, none⟩ = some (.slice A4 n4 c4) := hcx 5 _ rfl
      obtain ⟨_, _, p2, _, _⟩ := HP2.out.cells
      rw [← HN.out] at p2
      have hlp := blk_lt HP2.out.blk
      have k1 : (kq : Int) < (N : Int) := by omega
      have k0 : (0 : Int) ≤ (kq : Int) := by omega
      clear hcx hM hM2 hM3 hR4 hb1 hn4
      go_upto_region 19 with (fail)
      obtain ⟨w3, hw3⟩ : ∃ w3, w3 = w2.alloc (.cells #[.bool x.1, .int .i64 x.2.f0, .int .i64 x.2.f1, .bool x.2.f2, .int .i64 x.2.f3, .slice A4 n4 c4] 80) := ⟨_, rfl⟩
      have hB3 : Below w2.heap.size w2 w3 := by rw [hw3]; exact (Below.refl _ _).alloc (Nat.le_refl _) _
      have hfb3 : FlyBox w3 w2.heap.size x A4 n4 c4 := by unfold FlyBox; rw [hw3]; exact heap_alloc_new w2 _
      obtain ⟨fb, hfb⟩ : ∃ fb, fb = w2.heap.size := ⟨_, rfl⟩
      rw [← hw3, ← hfb]
      rw [← hfb] at hfb3
      have HFB3 := Lib.hid hfb3
      have HT3 := Lib.hid (HT2.out.below hB3)
      have HP3 := Lib.hid (HP2.out.below hB3)
      have HM3 := Lib.hid (show MBox w3 mb m D dn dc from blk_below HM2.out hB3)
      have HD3 := Lib.hid (Kd.R_below HD2.out hB3)
      have HFP := Lib.hid (show fb ≠ pb from by have := blk_lt HP2.out.blk; omega)
      clear hw3 hB3 hfb3 hfb x0 x1 x2 x3 x4 x5 p2 hlp HT2 HP2 HM2 HD2
      obtain ⟨m0, m1, m2, m3⟩ := HM3.out.cells
      obtain ⟨p0, p1, p2, p3, p4⟩ := HP3.out.cells
      rw [← HN.out] at p2
      have hlm := blk_lt HM3.out
      have hlp := blk_lt HP3.out.blk
      have HKN := Lib.hid hKN
      by_cases h4 : m.what = 4
      · have d4 : (m.what != 4) = false := by rw [bne_eq_false_iff_eq]; exact h4
        have d5 : (m.what == 5) = false := by rw [beq_eq_false_iff_ne]; omega
        have HW4 := Lib.hid h4
        have HW5 := Lib.hid (show ¬ m.what = 5 by omega)
        obtain ⟨f0, hfst⟩ : ∃ f, f = x.1 := ⟨_, rfl⟩
        clear h4 p0 p1 p2 p3 p4 m1 m2 m3 hlp k1 k0
        cases f0 with
        | true =>
          have HF1 := Lib.hid hfst.symm
          clear hfst
          obtain ⟨b0, b1, b2, b3, b4, b5⟩ := HFB3.out.cells
          rw [HF1.out] at b0
          obtain ⟨p0, p1, p2, p3, p4⟩ := HP3.out.cells
          have hlb := blk_lt HFB3.out
          have hlp := blk_lt HP3.out.blk
          obtain ⟨_, _, hD1, hD2, hD3⟩ := Kd.R_reads HD3.out
          injection hD1 with hD4 hD5 hD6
          have htk := (HT3.out).step (fun S h => take_any w3 w1.heap.size g1 S p.a h HC.out.ac (by have := HC.out.as_; omega) x.2 A4 n4 c4 HN4.out (by rw [hD4, ← HN4.out]; exact Kd.C_below hD3 (Below.refl _ _)) (by rw [hD6, ← HN4.out]; exact hD2) (by rw [← HN4.out]; exact HC.out.lsz x (List.mem_of_getElem? HX.out)))
          have htk2 := (HT3.out.below ((Below.refl w3.heap.size w3).drew)).step (fun S h => take_any w3.drew w1.heap.size g1 S p.a h HC.out.ac (by have := HC.out.as_; omega) x.2 A4 n4 c4 HN4.out (by rw [hD4, ← HN4.out]; exact Kd.C_below hD3 ((Below.refl _ _).drew)) (by rw [hD6, ← HN4.out]; exact hD2) (by rw [← HN4.out]; exact HC.out.lsz x (List.mem_of_getElem? HX.out)))
          have HTK := Lib.hid htk2
          clear htk htk2 hD2 hD3 hD4 hD5 hD6
          go_upto_region 23 with (fail)
          refine start_ (S := fun w' => Below w3.heap.size w3 w' ∧ w'.cell? ⟨pb, 0, none⟩ = some (.pointer (some ⟨g1, 0, none⟩)) ∧ w'.cell? ⟨fb, 1, none⟩ = some (.int .i64 x.2.f0) ∧ w'.cell? ⟨fb, 2, none⟩ = some (.int .i64 x.2.f1) ∧ w'.cell? ⟨fb, 3, none⟩ = some (.bool x.2.f2) ∧ w'.cell? ⟨fb, 4, none⟩ = some (.int .i64 x.2.f3) ∧ w'.cell? ⟨fb, 5, none⟩ = some (.slice A4 n4 c4)) (ds := [6]) (n := 7) #[false, false, false, false, false, false, false] rfl rfl rfl ?hS0 (fun hHeld => ?hrun)
          case hS0 => exact ⟨(Below.refl _ _).drew, p0, b1, b2, b3, b4, b5⟩
          case hrun =>
            refine pure_ (i := 0) (N := some 144) (v := ?_) (a' := ?_) #[true, false, false, false, false, false, false] rfl rfl (by kernel_rfl) (fun _ _ _ h => h) (Or.inl ⟨by rfl, ?_⟩) ?_ ?_
            rotate_left
            · intro w'
              go_simp
              first | done | with_reducible rfl
            rotate_left
            · simp only [Act.put, List.setIfInBounds_toArray, List.set_cons_zero, List.set_cons_succ, i64_w, i32_w]
              rfl
            refine pure_ (i := 1) (N := some 145) (v := ?_) (a' := ?_) #[true, true, false, false, false, false, false] rfl rfl (by kernel_rfl) (fun _ _ _ h => h) (Or.inl ⟨by rfl, ?_⟩) ?_ ?_
            rotate_left
            · intro w'
              go_simp
              first | done | with_reducible rfl
            rotate_left
            · simp only [Act.put, List.setIfInBounds_toArray, List.set_cons_zero, List.set_cons_succ, i64_w, i32_w]
              rfl
            refine pure_ (i := 2) (N := some 146) (v := ?_) (a' := ?_) #[true, true, true, false, false, false, false] rfl rfl (by kernel_rfl) (fun _ _ _ h => h) (Or.inl ⟨by rfl, ?_⟩) ?_ ?_
            rotate_left
            · intro w'
              go_simp
              first | done | with_reducible rfl
            rotate_left
            · simp only [Act.put, List.setIfInBounds_toArray, List.set_cons_zero, List.set_cons_succ, i64_w, i32_w]
              rfl
            refine take_ (i := 3) (N := some 147) (v := ?_) (a' := ?_) #[true, true, true, true, false, false, false] rfl rfl (by kernel_rfl) (fun _ _ _ h => h) (Or.inl ⟨by rfl, ?_⟩) hHeld ?_ ?_
            rotate_left
            · rintro w' ⟨hbe, s0, s1, s2, s3, s4, s5⟩
              go_simp
              first | done | with_reducible rfl
            rotate_left
            · simp only [Act.put, List.setIfInBounds_toArray, List.set_cons_zero, List.set_cons_succ, i64_w, i32_w]
              rfl
            refine pure_ (i := 4) (N := some 148) (v := ?_) (a' := ?_) #[true, true, true, true, true, false, false] rfl rfl (by kernel_rfl) (fun _ _ _ h => h) (Or.inl ⟨by rfl, ?_⟩) ?_ ?_
            rotate_left
            · intro w'
              go_simp
              first | done | with_reducible rfl
            rotate_left
            · simp only [Act.put, List.setIfInBounds_toArray, List.set_cons_zero, List.set_cons_succ, i64_w, i32_w]
              rfl
            refine take_ (i := 5) (N := some 149) (v := ?_) (a' := ?_) #[true, true, true, true, true, true, false] rfl rfl (by kernel_rfl) (fun _ _ _ h => h) (Or.inl ⟨by rfl, ?_⟩) hHeld ?_ ?_
            rotate_left
            · rintro w' ⟨hbe, s0, s1, s2, s3, s4, s5⟩
              go_simp
              first | done | with_reducible rfl
            rotate_left
            · simp only [Act.put, List.setIfInBounds_toArray, List.set_cons_zero, List.set_cons_succ, i64_w, i32_w]
              rfl
            refine tail_list 6 (t := [6]) (fuel := 0) rfl rfl rfl (by kernel_rfl) (by decide) ?_
            clear hHeld p0 p1 p2 p3 p4 b0 b1 b2 b3 b4 b5 hlb hlp
            go_wp2_with fail
            refine HTK.out.mono ?_
            rintro r w9 ⟨rfl, hT9, hTu⟩
            have HP9 := Lib.hid ((HP3.out.below ((Below.refl w3.heap.size w3).drew)).step hTu (fun i hi => hi.2))
            have HT9 := Lib.hid hT9
            clear hT9 hTu HTK
            go_wp2_with fail
            try simp only [Exit.inBlock, Exit.then]
            first | (refine bodyPost_ret (results_none rfl _ _ _) rfl ?_) | (refine bodyPost_end (results_none rfl _ _ _) rfl ?_)
            refine ⟨⟨_, rfl⟩, ?_⟩
            rw [HPS.out]
            unfold moved outL
            rw [if_neg HW5.out, HF1.out, if_pos rfl]
            rw [if_pos HW4.out]
            exact ⟨_, HT9.out, _, _, _, _, _, _, _, _, HP9.out⟩
        | false =>
          have HF1 := Lib.hid hfst.symm
          clear hfst
          obtain ⟨b0, b1, b2, b3, b4, b5⟩ := HFB3.out.cells
          rw [HF1.out] at b0
          obtain ⟨p0, p1, p2, p3, p4⟩ := HP3.out.cells
          have hlb := blk_lt HFB3.out
          have hlp := blk_lt HP3.out.blk
          obtain ⟨_, _, hD1, hD2, hD3⟩ := Kd.R_reads HD3.out
          injection hD1 with hD4 hD5 hD6
          have htk := (HT3.out.swap).step (fun S h => take_any w3 w1.heap.size g2 S p.b h HC.out.bc (by have := HC.out.bs; omega) x.2 A4 n4 c4 HN4.out (by rw [hD4, ← HN4.out]; exact Kd.C_below hD3 (Below.refl _ _)) (by rw [hD6, ← HN4.out]; exact hD2) (by rw [← HN4.out]; exact HC.out.lsz x (List.mem_of_getElem? HX.out)))
          have htk2 := (HT3.out.swap.below ((Below.refl w3.heap.size w3).drew)).step (fun S h => take_any w3.drew w1.heap.size g2 S p.b h HC.out.bc (by have := HC.out.bs; omega) x.2 A4 n4 c4 HN4.out (by rw [hD4, ← HN4.out]; exact Kd.C_below hD3 ((Below.refl _ _).drew)) (by rw [hD6, ← HN4.out]; exact hD2) (by rw [← HN4.out]; exact HC.out.lsz x (List.mem_of_getElem? HX.out)))
          have HTK := Lib.hid htk2
          clear htk htk2 hD2 hD3 hD4 hD5 hD6
          go_upto_region 24 with (fail)
          refine start_ (S := fun w' => Below w3.heap.size w3 w' ∧ w'.cell? ⟨pb, 1, none⟩ = some (.pointer (some ⟨g2, 0, none⟩)) ∧ w'.cell? ⟨fb, 1, none⟩ = some (.int .i64 x.2.f0) ∧ w'.cell? ⟨fb, 2, none⟩ = some (.int .i64 x.2.f1) ∧ w'.cell? ⟨fb, 3, none⟩ = some (.bool x.2.f2) ∧ w'.cell? ⟨fb, 4, none⟩ = some (.int .i64 x.2.f3) ∧ w'.cell? ⟨fb, 5, none⟩ = some (.slice A4 n4 c4)) (ds := [6]) (n := 7) #[false, false, false, false, false, false, false] rfl rfl rfl ?hS0 (fun hHeld => ?hrun)
          case hS0 => exact ⟨(Below.refl _ _).drew, p1, b1, b2, b3, b4, b5⟩
          case hrun =>
            refine pure_ (i := 0) (N := some 151) (v := ?_) (a' := ?_) #[true, false, false, false, false, false, false] rfl rfl (by kernel_rfl) (fun _ _ _ h => h) (Or.inl ⟨by rfl, ?_⟩) ?_ ?_
            rotate_left
            · intro w'
              go_simp
              first | done | with_reducible rfl
            rotate_left
            · simp only [Act.put, List.setIfInBounds_toArray, List.set_cons_zero, List.set_cons_succ, i64_w, i32_w]
              rfl
            refine pure_ (i := 1) (N := some 152) (v := ?_) (a' := ?_) #[true, true, false, false, false, false, false] rfl rfl (by kernel_rfl) (fun _ _ _ h => h) (Or.inl ⟨by rfl, ?_⟩) ?_ ?_
            rotate_left
            · intro w'
              go_simp
              first | done | with_reducible rfl
            rotate_left
            · simp only [Act.put, List.setIfInBounds_toArray, List.set_cons_zero, List.set_cons_succ, i64_w, i32_w]
              rfl
            refine pure_ (i := 2) (N := some 153) (v := ?_) (a' := ?_) #[true, true, true, false, false, false, false] rfl rfl (by kernel_rfl) (fun _ _ _ h => h) (Or.inl ⟨by rfl, ?_⟩) ?_ ?_
            rotate_left
            · intro w'
              go_simp
              first | done | with_reducible rfl
            rotate_left
            · simp only [Act.put, List.setIfInBounds_toArray, List.set_cons_zero, List.set_cons_succ, i64_w, i32_w]
              rfl
            refine take_ (i := 3) (N := some 154) (v := ?_) (a' := ?_) #[true, true, true, true, false, false, false] rfl rfl (by kernel_rfl) (fun _ _ _ h => h) (Or.inl ⟨by rfl, ?_⟩) hHeld ?_ ?_
            rotate_left
            · rintro w' ⟨hbe, s0, s1, s2, s3, s4, s5⟩
              go_simp
              first | done | with_reducible rfl
            rotate_left
            · simp only [Act.put, List.setIfInBounds_toArray, List.set_cons_zero, List.set_cons_succ, i64_w, i32_w]
              rfl
            refine pure_ (i := 4) (N := some 155) (v := ?_) (a' := ?_) #[true, true, true, true, true, false, false] rfl rfl (by kernel_rfl) (fun _ _ _ h => h) (Or.inl ⟨by rfl, ?_⟩) ?_ ?_
            rotate_left
            · intro w'
              go_simp
              first | done | with_reducible rfl
            rotate_left
            · simp only [Act.put, List.setIfInBounds_toArray, List.set_cons_zero, List.set_cons_succ, i64_w, i32_w]
              rfl
            refine take_ (i := 5) (N := some 156) (v := ?_) (a' := ?_) #[true, true, true, true, true, true, false] rfl rfl (by kernel_rfl) (fun _ _ _ h => h) (Or.inl ⟨by rfl, ?_⟩) hHeld ?_ ?_
            rotate_left
            · rintro w' ⟨hbe, s0, s1, s2, s3, s4, s5⟩
              go_simp
              first | done | with_reducible rfl
            rotate_left
            · simp only [Act.put, List.setIfInBounds_toArray, List.set_cons_zero, List.set_cons_succ, i64_w, i32_w]
              rfl
            refine tail_list 6 (t := [6]) (fuel := 0) rfl rfl rfl (by kernel_rfl) (by decide) ?_
            clear hHeld p0 p1 p2 p3 p4 b0 b1 b2 b3 b4 b5 hlb hlp
            go_wp2_with fail
            refine HTK.out.mono ?_
            rintro r w9 ⟨rfl, hT9, hTu⟩
            have HP9 := Lib.hid ((HP3.out.below ((Below.refl w3.heap.size w3).drew)).step hTu (fun i hi => hi.2))
            have HT9 := Lib.hid hT9.swap
            clear hT9 hTu HTK
            go_wp2_with fail
            try simp only [Exit.inBlock, Exit.then]
            first | (refine bodyPost_ret (results_none rfl _ _ _) rfl ?_) | (refine bodyPost_end (results_none rfl _ _ _) rfl ?_)
            refine ⟨⟨_, rfl⟩, ?_⟩
            rw [HPS.out]
            unfold moved outL
            rw [if_neg HW5.out, HF1.out, if_neg (by simp)]
            rw [if_pos HW4.out]
            exact ⟨_, HT9.out, _, _, _, _, _, _, _, _, HP9.out⟩
      · have d4 : (m.what != 4) = true := by rw [bne_iff_ne]; exact h4
        have HW4 := Lib.hid h4
        have hcl : N ≤ cl := by have := (Kd.R_reads' HP3.out.rl).2.1; rw [HN.out]; exact this
        have k2 : (kq : Int) ≤ (cl : Int) := by omega
        have k6 : kq ≤ cl := by omega
        have k8 : (0 : Int) ≤ (kq : Int) + 1 := by omega
        have k10 : (kq : Int) + 1 ≤ (N : Int) := by omega
        have k9 : kq + 1 ≤ N := by omega
        obtain ⟨A16, h16, hA16⟩ : ∃ A16 : Option Addr, (if cl = kq + 1 then some (⟨gl, 0, none⟩ : Addr) else some ⟨gl, (kq + 1) * 6, none⟩) = A16 ∧ (0 < N - (kq + 1) → A16 = some ⟨gl, (kq + 1) * 6, none⟩) :=
          ⟨_, rfl, fun h => by rw [if_neg (by omega)]⟩
        have HA16 := Lib.hid hA16
        have HML := Lib.hid (kFly_M_of HP3.out.rl rfl)
        have hbr := HT3.out.hB.size
        have hfl3 : ∀ k, Fl k → k < w3.heap.size := fun k hk => (HP3.out.fb k (HP3.out.fl k hk).1).2
        have HFL := Lib.hid hfl3
        have HBR := Lib.hid hbr
        have HEM := Lib.hid (show Kd.R kFly 80 (w3.alloc (.cells #[] 80)).drew w1.heap.size (fun k => Fl k ∨ w3.heap.size ≤ k) (.slice (some ⟨w3.heap.size, 0, none⟩) 0 0) [] from Kd.R_drew (empty_fly hbr (.inr (Nat.le_refl _))))
        have HWE := Lib.hid (show Below w3.heap.size w3 (w3.alloc (.cells #[] 80)).drew from ((Below.refl w3.heap.size w3).alloc (Nat.le_refl _) _).drew)
        have HSZ := Lib.hid (show (w3.alloc (.cells #[] 80)).drew.heap.size = w3.heap.size + 1 from by simp)
        have k7 : wrap64 ((kq : Int) + 1) = ((kq + 1 : Nat) : Int) := wrap_succ (by have := HC.out.ll; have := HN.out; omega)
        clear h4 hA16 hfl3 hbr
        go_upto_region 20 with (fail)
        refine start_ (S := fun w' => Below w3.heap.size w3 w' ∧ w'.cell? ⟨pb, 2, none⟩ = some (.slice (some ⟨gl, 0, none⟩) N cl)) (ds := [17, 18, 19]) (n := 20) #[false, false, false, false, false, false, false, false, false, false, false, false, false, false, false, false, false, false, false, false] rfl rfl rfl ?hS0 (fun hHeld => ?hrun)
        case hS0 => exact ⟨(Below.refl _ _).drew, p2⟩
        case hrun =>
          refine pure_ (i := 0) (N := some 120) (v := ?_) (a' := ?_) #[true, false, false, false, false, false, false, false, false, false, false, false, false, false, false, false, false, false, false, false] rfl rfl (by kernel_rfl) (fun _ _ _ h => h) (Or.inl ⟨by rfl, ?_⟩) ?_ ?_
          rotate_left
          · intro w'
            go_simp
            first | done | with_reducible rfl
          rotate_left
          · simp only [Act.put, List.setIfInBounds_toArray, List.set_cons_zero, List.set_cons_succ, i64_w, i32_w]
            rfl
          refine pure_ (i := 2) (N := some 122) (v := ?_) (a' := ?_) #[true, false, true, false, false, false, false, false, false, false, false, false, false, false, false, false, false, false, false, false] rfl rfl (by kernel_rfl) (fun _ _ _ h => h) (Or.inl ⟨by rfl, ?_⟩) ?_ ?_
          rotate_left
          · intro w'
            go_simp
            first | done | with_reducible rfl
          rotate_left
          · simp only [Act.put, List.setIfInBounds_toArray, List.set_cons_zero, List.set_cons_succ, i64_w, i32_w]
            rfl
          refine pure_ (i := 3) (N := some 123) (v := ?_) (a' := ?_) #[true, false, true, true, false, false, false, false, false, false, false, false, false, false, false, false, false, false, false, false] rfl rfl (by kernel_rfl) (fun _ _ _ h => h) (Or.inl ⟨by rfl, ?_⟩) ?_ ?_
          rotate_left
          · intro w'
            go_simp
            first | done | with_reducible rfl
          rotate_left
          · simp only [Act.put, List.setIfInBounds_toArray, List.set_cons_zero, List.set_cons_succ, i64_w, i32_w]
            rfl
          refine pure_ (i := 4) (N := some 124) (v := ?_) (a' := ?_) #[true, false, true, true, true, false, false, false, false, false, false, false, false, false, false, false, false, false, false, false] rfl rfl (by kernel_rfl) (fun _ _ _ h => h) (Or.inl ⟨by rfl, ?_⟩) ?_ ?_
          rotate_left
          · intro w'
            go_simp
            first | done | with_reducible rfl
          rotate_left
          · simp only [Act.put, List.setIfInBounds_toArray, List.set_cons_zero, List.set_cons_succ, i64_w, i32_w]
            rfl
          refine take_ (i := 5) (N := some 125) (v := ?_) (a' := ?_) #[true, false, true, true, true, true, false, false, false, false, false, false, false, false, false, false, false, false, false, false] rfl rfl (by kernel_rfl) (fun _ _ _ h => h) (Or.inl ⟨by rfl, ?_⟩) hHeld ?_ ?_
          rotate_left
          · rintro w' ⟨hbe, s0⟩
            go_simp
            first | done | with_reducible rfl
          rotate_left
          · simp only [Act.put, List.setIfInBounds_toArray, List.set_cons_zero, List.set_cons_succ, i64_w, i32_w]
            rfl
          refine pure_ (i := 6) (N := some 126) (v := ?_) (a' := ?_) #[true, false, true, true, true, true, true, false, false, false, false, false, false, false, false, false, false, false, false, false] rfl rfl (by kernel_rfl) (fun _ _ _ h => h) (Or.inl ⟨by rfl, ?_⟩) ?_ ?_
          rotate_left
          · intro w'
            go_simp
            first | done | with_reducible rfl
          rotate_left
          · simp only [Act.put, List.setIfInBounds_toArray, List.set_cons_zero, List.set_cons_succ, i64_w, i32_w]
            rfl
          refine pure_ (i := 7) (N := some 127) (v := ?_) (a' := ?_) #[true, false, true, true, true, true, true, true, false, false, false, false, false, false, false, false, false, false, false, false] rfl rfl (by kernel_rfl) (fun _ _ _ h => h) (Or.inl ⟨by rfl, ?_⟩) ?_ ?_
          rotate_left
          · intro w'
            go_simp
            first | done | with_reducible rfl
          rotate_left
          · simp only [Act.put, List.setIfInBounds_toArray, List.set_cons_zero, List.set_cons_succ, i64_w, i32_w]
            rfl
          refine pure_ (i := 9) (N := some 129) (v := ?_) (a' := ?_) #[true, false, true, true, true, true, true, true, false, true, false, false, false, false, false, false, false, false, false, false] rfl rfl (by kernel_rfl) (fun _ _ _ h => h) (Or.inl ⟨by rfl, ?_⟩) ?_ ?_
          rotate_left
          · intro w'
            go_simp
            first | done | with_reducible rfl
          rotate_left
          · simp only [Act.put, List.setIfInBounds_toArray, List.set_cons_zero, List.set_cons_succ, i64_w, i32_w]
            rfl
          refine pure_ (i := 10) (N := some 130) (v := ?_) (a' := ?_) #[true, false, true, true, true, true, true, true, false, true, true, false, false, false, false, false, false, false, false, false] rfl rfl (by kernel_rfl) (fun _ _ _ h => h) (Or.inl ⟨by rfl, ?_⟩) ?_ ?_
          rotate_left
          · intro w'
            go_simp
            first | done | with_reducible rfl
          rotate_left
          · simp only [Act.put, List.setIfInBounds_toArray, List.set_cons_zero, List.set_cons_succ, i64_w, i32_w]
            rfl
          refine pure_ (i := 11) (N := some 131) (v := ?_) (a' := ?_) #[true, false, true, true, true, true, true, true, false, true, true, true, false, false, false, false, false, false, false, false] rfl rfl (by kernel_rfl) (fun _ _ _ h => h) (Or.inl ⟨by rfl, ?_⟩) ?_ ?_
          rotate_left
          · intro w'
            go_simp
            first | done | with_reducible rfl
          rotate_left
          · simp only [Act.put, List.setIfInBounds_toArray, List.set_cons_zero, List.set_cons_succ, i64_w, i32_w]
            rfl
          refine take_ (i := 12) (N := some 132) (v := ?_) (a' := ?_) #[true, false, true, true, true, true, true, true, false, true, true, true, true, false, false, false, false, false, false, false] rfl rfl (by kernel_rfl) (fun _ _ _ h => h) (Or.inl ⟨by rfl, ?_⟩) hHeld ?_ ?_
          rotate_left
          · rintro w' ⟨hbe, s0⟩
            go_simp
            first | done | with_reducible rfl
          rotate_left
          · simp only [Act.put, List.setIfInBounds_toArray, List.set_cons_zero, List.set_cons_succ, i64_w, i32_w]
            rfl
          refine pure_ (i := 13) (N := some 133) (v := ?_) (a' := ?_) #[true, false, true, true, true, true, true, true, false, true, true, true, true, true, false, false, false, false, false, false] rfl rfl (by kernel_rfl) (fun _ _ _ h => h) (Or.inl ⟨by rfl, ?_⟩) ?_ ?_
          rotate_left
          · intro w'
            go_simp
            first | done | with_reducible rfl
          rotate_left
          · simp only [Act.put, List.setIfInBounds_toArray, List.set_cons_zero, List.set_cons_succ, i64_w, i32_w]
            rfl
          refine pure_ (i := 14) (N := some 134) (v := ?_) (a' := ?_) #[true, false, true, true, true, true, true, true, false, true, true, true, true, true, true, false, false, false, false, false] rfl rfl (by kernel_rfl) (fun _ _ _ h => h) (Or.inl ⟨by rfl, ?_⟩) ?_ ?_
          rotate_left
          · intro w'
            go_simp
            first | done | with_reducible rfl
          rotate_left
          · simp only [Act.put, List.setIfInBounds_toArray, List.set_cons_zero, List.set_cons_succ, i64_w, i32_w]
            rfl
          refine pure_ (i := 15) (N := some 135) (v := ?_) (a' := ?_) #[true, false, true, true, true, true, true, true, false, true, true, true, true, true, true, true, false, false, false, false] rfl rfl (by kernel_rfl) (fun _ _ _ h => h) (Or.inl ⟨by rfl, ?_⟩) ?_ ?_
          rotate_left
          · intro w'
            go_simp
            first | done | with_reducible rfl
          rotate_left
          · simp only [Act.put, List.setIfInBounds_toArray, List.set_cons_zero, List.set_cons_succ, i64_w, i32_w]
            rfl
          refine one_ (i := 1) (N := some 121) #[true, true, true, true, true, true, true, true, false, true, true, true, true, true, true, true, false, false, false, false] rfl rfl (by kernel_rfl) (by decide) (fun K hK => ?_)
          refine value_ (by rfl) rfl (by go_simp; first | rfl | exact ⟨rfl, rfl⟩) ?_
          clear k7 k8 k10 k2
          refine hK.out _ _ ⟨HWE.out, pw_cell_below HWE.out p2⟩ (fun hHeld1 => ?_)
          clear hK K
          refine norm_ (a' := ?_) ?_ ?_
          rotate_left
          · show Act.put _ (some 121) _ = _
            simp only [Act.put, List.setIfInBounds_toArray, List.set_cons_zero, List.set_cons_succ, i64_w, i32_w]
            rfl
          refine one_ (i := 8) (N := some 128) #[true, true, true, true, true, true, true, true, true, true, true, true, true, true, true, true, false, false, false, false] rfl rfl (by kernel_rfl) (by decide) (fun K hK => ?_)
          refine Kd.R_append_rows_step (w0 := w1) kFly (Rr := kFly.M ((w3.alloc (.cells #[] 80)).drew) w1.heap.size Fl) w1.heap.size (by rfl) _ _ 53 80 (.agg #[.bool false, .int .i64 0, .int .i64 0, .bool false, .int .i64 0, .slice none 0 0]) 64 (by rfl) Tryd.underlying53 infoFly rfl (by decide) (by decide) (.slice (some ⟨w3.heap.size, 0, none⟩) 0 0) [] (p.l.take kq) (some ⟨gl, 0, none⟩) kq cl (fun k => Fl k ∨ w3.heap.size ≤ k) Fl (by rfl) (by rfl) ?ho1x ?hr1x (fun x cs h => h) ?hp1x ?hf1x ?hb1x ?hbase1x ?hl1x ?hk1x
          case ho1x => exact HEM.out
          case hr1x =>
            have h := row_part HML.out 0 kq (by have := HN.out; have := HKN.out; omega)
            rw [Nat.zero_mul, List.drop_zero] at h
            exact h.imp_ HWE.out (fun p c hp => kFly.M_move (fun k hk => HWE.out.block k (HFL.out k hk)) hp)
          case hp1x => exact fun k hk => ⟨.inl hk, fun e => by have := HFL.out k hk; simp [Value.ownBlock] at e; omega⟩
          case hf1x => exact fun k hk => .inr (by have h1 := HSZ.out; have h2 : (w3.alloc (.cells #[] 80)).drew.heap.size ≤ k := hk; omega)
          case hb1x => exact HT3.out.hB.trans (HWE.out.mono HBR.out)
          case hbase1x => have := HBR.out; have := HSZ.out; omega
          case hl1x => show (0 + kq) * 64 ≤ _; have := HC.out.ll; have := HN.out; have := HKN.out; omega
          intro v1 w5 hR1 _ hg1 hat1
          rw [List.nil_append] at hR1
          have hgW : Below w3.heap.size w3 w5 := Below.grown HWE.out hg1 (by have := HSZ.out; omega) (fun k e => by simp [Value.ownBlock] at e; omega)
          have hz1 := hgW.size
          have hown1 : ∀ k, k < w3.heap.size → some k ≠ v1.ownBlock := by
            intro k hk e
            rcases hat1 with h | ⟨b, h, hb⟩
            · rw [h] at e; simp [Value.ownBlock] at e; omega
            · rw [h] at e
              have h1 := Option.some.inj e
              have h2 := HSZ.out
              have h3 : (w3.alloc (.cells #[] 80)).drew.heap.size ≤ b := hb
              omega
          have HOW := Lib.hid hown1
          have hlt1 : (p.l.take kq).length = kq := by rw [List.length_take]; have := HN.out; have := HKN.out; omega
          obtain ⟨A1, c1, rfl⟩ := Kd.R_slice hR1
          rw [hlt1] at hR1 HOW ⊢
          have HR1 := Lib.hid hR1
          have HGW := Lib.hid hgW
          have HLT := Lib.hid hlt1
          clear hR1 hg1 hat1 hgW hown1 hlt1 hHeld hz1
          refine hK.out _ _ ⟨HGW.out, pw_cell_below HGW.out p2⟩ (fun hHeld2 => ?_)
          clear hK K
          refine norm_ (a' := ?_) ?_ ?_
          rotate_left
          · show Act.put _ (some 128) _ = _
            simp only [Act.put, List.setIfInBounds_toArray, List.set_cons_zero, List.set_cons_succ, i64_w, i32_w]
            rfl
          refine one_ (i := 16) (N := some 136) #[true, true, true, true, true, true, true, true, true, true, true, true, true, true, true, true, true, false, false, false] rfl rfl (by kernel_rfl) (by decide) (fun K hK => ?_)
          refine Kd.R_append_rows_step (w0 := w1) kFly (Rr := kFly.M w5 w1.heap.size Fl) w1.heap.size (by rfl) _ _ 53 80 (.agg #[.bool false, .int .i64 0, .int .i64 0, .bool false, .int .i64 0, .slice none 0 0]) 64 (by rfl) Tryd.underlying53 infoFly rfl (by decide) (by decide) (.slice A1 kq c1) (p.l.take kq) (p.l.drop (kq + 1)) A16 (N - (kq + 1)) (cl - (kq + 1)) (fun k => Fl k ∨ w3.heap.size ≤ k) Fl (by rfl) (by rfl) HR1.out ?hr2x (fun x cs h => h) ?hp2x ?hf2x ?hb2x ?hbase2x ?hl2x ?hk2x
          case hr2x =>
            rcases Nat.eq_zero_or_pos (N - (kq + 1)) with h0 | h0
            · rw [h0]
              exact ⟨by rw [List.length_drop]; have := HN.out; omega, by omega, fun h => by omega⟩
            · rw [HA16.out h0]
              have h := row_part HML.out (kq + 1) (N - (kq + 1)) (by have := HN.out; have := HKN.out; omega)
              rw [List.take_of_length_le (by rw [List.length_drop]; have := HN.out; omega)] at h
              exact h.imp_ HGW.out (fun p c hp => kFly.M_move (fun k hk => HGW.out.block k (HFL.out k hk)) hp)
          case hp2x => exact fun k hk => ⟨.inl hk, HOW.out k (HFL.out k hk)⟩
          case hf2x => exact fun k hk => .inr (by have := HGW.out.size; have h2 : w5.heap.size ≤ k := hk; omega)
          case hb2x => exact HT3.out.hB.trans (HGW.out.mono HBR.out)
          case hbase2x => have := HBR.out; have := HGW.out.size; omega
          case hl2x => rw [HLT.out]; have := HC.out.ll; have := HN.out; omega
          intro v2 w6 hR2 _ hg2 _
          rw [← List.eraseIdx_eq_take_drop_succ] at hR2
          have hgW2 : Below w3.heap.size w3 w6 := Below.grown HGW.out hg2 HGW.out.size (fun k e => Nat.le_of_not_lt (fun hk => HOW.out k hk e.symm))
          have HR2 := Lib.hid hR2
          have HG2 := Lib.hid hgW2
          obtain ⟨A3, c3, hv2⟩ := Kd.R_slice hR2
          subst hv2
          clear hR2 hg2 hgW2
          refine hK.out _ _ ⟨HG2.out, pw_cell_below HG2.out p2⟩ (fun hHeld3 => ?_)
          clear hK K
          refine norm_ (a' := ?_) ?_ ?_
          rotate_left
          · show Act.put _ (some 136) _ = _
            simp only [Act.put, List.setIfInBounds_toArray, List.set_cons_zero, List.set_cons_succ, i64_w, i32_w]
            rfl
          refine tail_list 17 (t := [17, 18, 19]) (fuel := 0) rfl rfl rfl (by kernel_rfl) (by decide) ?_
          have hgn : w3.grownBy w6 none := ⟨HG2.out.os, HG2.out.tape, HG2.out.output, HG2.out.size, fun k hk _ => HG2.out.block k hk⟩
          obtain ⟨hp9, hTF, hP9⟩ := HP3.out.putL HBR.out (X := Fl) (fun k hk => HP3.out.fl k hk) HR2.out hgn (fun k e => by cases e)
          have hfb9 : FlyBox (w6.setCell ⟨pb, 2, none⟩ (.slice A3 (p.l.eraseIdx kq).length c3)) fb x A4 n4 c4 := by
            unfold FlyBox
            rw [Below.heap_setCell _ _ _ _ (show fb ≠ (⟨pb, 2, none⟩ : Addr).block from HFP.out)]
            exact blk_below HFB3.out HG2.out
          have hm9 : MBox (w6.setCell ⟨pb, 2, none⟩ (.slice A3 (p.l.eraseIdx kq).length c3)) mb m D dn dc := by
            unfold MBox
            rw [Below.heap_setCell _ _ _ _ (show mb ≠ (⟨pb, 2, none⟩ : Addr).block from HF.out.2.1)]
            exact blk_below HM3.out HG2.out
          have hd9 : Kd.R (Kd.int .u8) 5 (w6.setCell ⟨pb, 2, none⟩ (.slice A3 (p.l.eraseIdx kq).length c3)) w1.heap.size Fl (.slice A4 n4 c4) x.2.f4 :=
            Kd.R_far (Kd.R_step HD3.out (fun k hk hl => HG2.out.block k (HFL.out k hk))) (fun k hk => (HP3.out.fl k hk).2.1) _
          have hT9 := HT3.out.widen hTF (fun i hi => (HP3.out.fb i hi).1)
          rw [since_set] at hT9
          obtain ⟨_, _, q2, _, _⟩ := cells5 hp9
          rw [← HN.out] at q2
          have hf9 := blk_frozen hp9 2
          have hl9 := blk_lt hp9
          obtain ⟨ne, hne⟩ : ∃ n, n = (p.l.eraseIdx kq).length := ⟨_, rfl⟩
          rw [← hne] at hT9 hP9 hfb9 hm9 hd9 ⊢
          have HT9 := Lib.hid hT9
          have HP9 := Lib.hid hP9
          have HFB9 := Lib.hid hfb9
          have HM9 := Lib.hid hm9
          have HD9 := Lib.hid hd9
          clear hgn hp9 hTF hP9 hfb9 hm9 hd9 hT9 hne p0 p1 p2 p3 p4 m0 m1 m2 m3 hlm hlp hHeld1 hHeld2 hHeld3 k0 k1 k6 k9 h16 hcl
          go_upto_region 21 with (fail)
          obtain ⟨w7, hw7⟩ : ∃ w7, w7 = w6.setCell ⟨pb, 2, none⟩ (.slice A3 ne c3) := ⟨_, rfl⟩
          rw [← hw7] at HT9 HP9 HFB9 HM9 HD9 ⊢
          obtain ⟨F9, hF9⟩ : ∃ F9, F9 = Since F2 w3 w6 := ⟨_, rfl⟩
          rw [← hF9] at HT9 HP9
          clear q2 hf9 hl9 hw7 hF9
          obtain ⟨m0, m1, m2, m3⟩ := HM9.out.cells
          have hlm := blk_lt HM9.out
          by_cases h5 : m.what = 5
          · have d5 : (m.what == 5) = true := by rw [beq_iff_eq]; exact h5
            have HW5 := Lib.hid h5
            clear h5
            go_wp2_with fail
            try simp only [Exit.inBlock, Exit.then]
            first | (refine bodyPost_ret (results_none rfl _ _ _) rfl ?_) | (refine bodyPost_end (results_none rfl _ _ _) rfl ?_)
            refine ⟨⟨_, rfl⟩, ?_⟩
            rw [HPS.out]
            unfold moved outL
            rw [if_pos HW5.out, if_neg HW4.out]
            exact ⟨_, HT9.out, _, _, _, _, _, _, _, _, HP9.out⟩
          · have d5 : (m.what == 5) = false := by rw [beq_eq_false_iff_ne]; exact h5
            have HW5 := Lib.hid h5
            obtain ⟨f0, hfst⟩ : ∃ f, f = x.1 := ⟨_, rfl⟩
            clear h5 m1 m2 m3
            cases f0 with
            | true =>
              have HF1 := Lib.hid hfst.symm
              clear hfst
              obtain ⟨b0, b1, b2, b3, b4, b5⟩ := HFB9.out.cells
              rw [HF1.out] at b0
              obtain ⟨p0, p1, p2, p3, p4⟩ := HP9.out.cells
              have hlb := blk_lt HFB9.out
              have hlp := blk_lt HP9.out.blk
              obtain ⟨_, _, hD1, hD2, hD3⟩ := Kd.R_reads HD9.out
              injection hD1 with hD4 hD5 hD6
              have htk := (HT9.out).step (fun S h => take_any w7 w1.heap.size g1 S p.a h HC.out.ac (by have := HC.out.as_; omega) x.2 A4 n4 c4 HN4.out (by rw [hD4, ← HN4.out]; exact Kd.C_below hD3 (Below.refl _ _)) (by rw [hD6, ← HN4.out]; exact hD2) (by rw [← HN4.out]; exact HC.out.lsz x (List.mem_of_getElem? HX.out)))
              have htk2 := (HT9.out.below ((Below.refl w7.heap.size w7).drew)).step (fun S h => take_any w7.drew w1.heap.size g1 S p.a h HC.out.ac (by have := HC.out.as_; omega) x.2 A4 n4 c4 HN4.out (by rw [hD4, ← HN4.out]; exact Kd.C_below hD3 ((Below.refl _ _).drew)) (by rw [hD6, ← HN4.out]; exact hD2) (by rw [← HN4.out]; exact HC.out.lsz x (List.mem_of_getElem? HX.out)))
              have HTK := Lib.hid htk2
              clear htk htk2 hD2 hD3 hD4 hD5 hD6
              go_upto_region 23 with (fail)
              refine start_ (S := fun w' => Below w7.heap.size w7 w' ∧ w'.cell? ⟨pb, 0, none⟩ = some (.pointer (some ⟨g1, 0, none⟩)) ∧ w'.cell? ⟨fb, 1, none⟩ = some (.int .i64 x.2.f0) ∧ w'.cell? ⟨fb, 2, none⟩ = some (.int .i64 x.2.f1) ∧ w'.cell? ⟨fb, 3, none⟩ = some (.bool x.2.f2) ∧ w'.cell? ⟨fb, 4, none⟩ = some (.int .i64 x.2.f3) ∧ w'.cell? ⟨fb, 5, none⟩ = some (.slice A4 n4 c4)) (ds := [6]) (n := 7) #[false, false, false, false, false, false, false] rfl rfl rfl ?hS0 (fun hHeld => ?hrun)
              case hS0 => exact ⟨(Below.refl _ _).drew, p0, b1, b2, b3, b4, b5⟩
              case hrun =>
                refine pure_ (i := 0) (N := some 144) (v := ?_) (a' := ?_) #[true, false, false, false, false, false, false] rfl rfl (by kernel_rfl) (fun _ _ _ h => h) (Or.inl ⟨by rfl, ?_⟩) ?_ ?_
                rotate_left
                · intro w'
                  go_simp
                  first | done | with_reducible rfl
                rotate_left
                · simp only [Act.put, List.setIfInBounds_toArray, List.set_cons_zero, List.set_cons_succ, i64_w, i32_w]
                  rfl
                refine pure_ (i := 1) (N := some 145) (v := ?_) (a' := ?_) #[true, true, false, false, false, false, false] rfl rfl (by kernel_rfl) (fun _ _ _ h => h) (Or.inl ⟨by rfl, ?_⟩) ?_ ?_
                rotate_left
                · intro w'
                  go_simp
                  first | done | with_reducible rfl
                rotate_left
                · simp only [Act.put, List.setIfInBounds_toArray, List.set_cons_zero, List.set_cons_succ, i64_w, i32_w]
                  rfl
                refine pure_ (i := 2) (N := some 146) (v := ?_) (a' := ?_) #[true, true, true, false, false, false, false] rfl rfl (by kernel_rfl) (fun _ _ _ h => h) (Or.inl ⟨by rfl, ?_⟩) ?_ ?_
                rotate_left
                · intro w'
                  go_simp
                  first | done | with_reducible rfl
                rotate_left
                · simp only [Act.put, List.setIfInBounds_toArray, List.set_cons_zero, List.set_cons_succ, i64_w, i32_w]
                  rfl
                refine take_ (i := 3) (N := some 147) (v := ?_) (a' := ?_) #[true, true, true, true, false, false, false] rfl rfl (by kernel_rfl) (fun _ _ _ h => h) (Or.inl ⟨by rfl, ?_⟩) hHeld ?_ ?_
                rotate_left
                · rintro w' ⟨hbe, s0, s1, s2, s3, s4, s5⟩
                  go_simp
                  first | done | with_reducible rfl
                rotate_left
                · simp only [Act.put, List.setIfInBounds_toArray, List.set_cons_zero, List.set_cons_succ, i64_w, i32_w]
                  rfl
                refine pure_ (i := 4) (N := some 148) (v := ?_) (a' := ?_) #[true, true, true, true, true, false, false] rfl rfl (by kernel_rfl) (fun _ _ _ h => h) (Or.inl ⟨by rfl, ?_⟩) ?_ ?_
                rotate_left
                · intro w'
                  go_simp
                  first | done | with_reducible rfl
                rotate_left
                · simp only [Act.put, List.setIfInBounds_toArray, List.set_cons_zero, List.set_cons_succ, i64_w, i32_w]
                  rfl
                refine take_ (i := 5) (N := some 149) (v := ?_) (a' := ?_) #[true, true, true, true, true, true, false] rfl rfl (by kernel_rfl) (fun _ _ _ h => h) (Or.inl ⟨by rfl, ?_⟩) hHeld ?_ ?_
                rotate_left
                · rintro w' ⟨hbe, s0, s1, s2, s3, s4, s5⟩
                  go_simp
                  first | done | with_reducible rfl
                rotate_left
                · simp only [Act.put, List.setIfInBounds_toArray, List.set_cons_zero, List.set_cons_succ, i64_w, i32_w]
                  rfl
                refine tail_list 6 (t := [6]) (fuel := 0) rfl rfl rfl (by kernel_rfl) (by decide) ?_
                clear hHeld p0 p1 p2 p3 p4 b0 b1 b2 b3 b4 b5 hlb hlp
                go_wp2_with fail
                refine HTK.out.mono ?_
                rintro r w9 ⟨rfl, hT9, hTu⟩
                have HP9 := Lib.hid ((HP9.out.below ((Below.refl w7.heap.size w7).drew)).step hTu (fun i hi => hi.2))
                have HT9 := Lib.hid hT9
                clear hT9 hTu HTK
                go_wp2_with fail
                try simp only [Exit.inBlock, Exit.then]
                first | (refine bodyPost_ret (results_none rfl _ _ _) rfl ?_) | (refine bodyPost_end (results_none rfl _ _ _) rfl ?_)
                refine ⟨⟨_, rfl⟩, ?_⟩
                rw [HPS.out]
                unfold moved outL
                rw [if_neg HW5.out, HF1.out, if_pos rfl]
                rw [if_neg HW4.out]
                exact ⟨_, HT9.out, _, _, _, _, _, _, _, _, HP9.out⟩
            | false =>
              have HF1 := Lib.hid hfst.symm
              clear hfst
              obtain ⟨b0, b1, b2, b3, b4, b5⟩ := HFB9.out.cells
              rw [HF1.out] at b0
              obtain ⟨p0, p1, p2, p3, p4⟩ := HP9.out.cells
              have hlb := blk_lt HFB9.out
              have hlp := blk_lt HP9.out.blk
              obtain ⟨_, _, hD1, hD2, hD3⟩ := Kd.R_reads HD9.out
              injection hD1 with hD4 hD5 hD6
              have htk := (HT9.out.swap).step (fun S h => take_any w7 w1.heap.size g2 S p.b h HC.out.bc (by have := HC.out.bs; omega) x.2 A4 n4 c4 HN4.out (by rw [hD4, ← HN4.out]; exact Kd.C_below hD3 (Below.refl _ _)) (by rw [hD6, ← HN4.out]; exact hD2) (by rw [← HN4.out]; exact HC.out.lsz x (List.mem_of_getElem? HX.out)))
              have htk2 := (HT9.out.swap.below ((Below.refl w7.heap.size w7).drew)).step (fun S h => take_any w7.drew w1.heap.size g2 S p.b h HC.out.bc (by have := HC.out.bs; omega) x.2 A4 n4 c4 HN4.out (by rw [hD4, ← HN4.out]; exact Kd.C_below hD3 ((Below.refl _ _).drew)) (by rw [hD6, ← HN4.out]; exact hD2) (by rw [← HN4.out]; exact HC.out.lsz x (List.mem_of_getElem? HX.out)))
              have HTK := Lib.hid htk2
              clear htk htk2 hD2 hD3 hD4 hD5 hD6
              go_upto_region 24 with (fail)
              refine start_ (S := fun w' => Below w7.heap.size w7 w' ∧ w'.cell? ⟨pb, 1, none⟩ = some (.pointer (some ⟨g2, 0, none⟩)) ∧ w'.cell? ⟨fb, 1, none⟩ = some (.int .i64 x.2.f0) ∧ w'.cell? ⟨fb, 2, none⟩ = some (.int .i64 x.2.f1) ∧ w'.cell? ⟨fb, 3, none⟩ = some (.bool x.2.f2) ∧ w'.cell? ⟨fb, 4, none⟩ = some (.int .i64 x.2.f3) ∧ w'.cell? ⟨fb, 5, none⟩ = some (.slice A4 n4 c4)) (ds := [6]) (n := 7) #[false, false, false, false, false, false, false] rfl rfl rfl ?hS0 (fun hHeld => ?hrun)
              case hS0 => exact ⟨(Below.refl _ _).drew, p1, b1, b2, b3, b4, b5⟩
              case hrun =>
                refine pure_ (i := 0) (N := some 151) (v := ?_) (a' := ?_) #[true, false, false, false, false, false, false] rfl rfl (by kernel_rfl) (fun _ _ _ h => h) (Or.inl ⟨by rfl, ?_⟩) ?_ ?_
                rotate_left
                · intro w'
                  go_simp
                  first | done | with_reducible rfl
                rotate_left
                · simp only [Act.put, List.setIfInBounds_toArray, List.set_cons_zero, List.set_cons_succ, i64_w, i32_w]
                  rfl
                refine pure_ (i := 1) (N := some 152) (v := ?_) (a' := ?_) #[true, true, false, false, false, false, false] rfl rfl (by kernel_rfl) (fun _ _ _ h => h) (Or.inl ⟨by rfl, ?_⟩) ?_ ?_
                rotate_left
                · intro w'
                  go_simp
                  first | done | with_reducible rfl
                rotate_left
                · simp only [Act.put, List.setIfInBounds_toArray, List.set_cons_zero, List.set_cons_succ, i64_w, i32_w]
                  rfl
                refine pure_ (i := 2) (N := some 153) (v := ?_) (a' := ?_) #[true, true, true, false, false, false, false] rfl rfl (by kernel_rfl) (fun _ _ _ h => h) (Or.inl ⟨by rfl, ?_⟩) ?_ ?_
                rotate_left
                · intro w'
                  go_simp
                  first | done | with_reducible rfl
                rotate_left
                · simp only [Act.put, List.setIfInBounds_toArray, List.set_cons_zero, List.set_cons_succ, i64_w, i32_w]
                  rfl
                refine take_ (i := 3) (N := some 154) (v := ?_) (a' := ?_) #[true, true, true, true, false, false, false] rfl rfl (by kernel_rfl) (fun _ _ _ h => h) (Or.inl ⟨by rfl, ?_⟩) hHeld ?_ ?_
                rotate_left
                · rintro w' ⟨hbe, s0, s1, s2, s3, s4, s5⟩
                  go_simp
                  first | done | with_reducible rfl
                rotate_left
                · simp only [Act.put, List.setIfInBounds_toArray, List.set_cons_zero, List.set_cons_succ, i64_w, i32_w]
                  rfl
                refine pure_ (i := 4) (N := some 155) (v := ?_) (a' := ?_) #[true, true, true, true, true, false, false] rfl rfl (by kernel_rfl) (fun _ _ _ h => h) (Or.inl ⟨by rfl, ?_⟩) ?_ ?_
                rotate_left
                · intro w'
                  go_simp
                  first | done | with_reducible rfl
                rotate_left
                · simp only [Act.put, List.setIfInBounds_toArray, List.set_cons_zero, List.set_cons_succ, i64_w, i32_w]
                  rfl
                refine take_ (i := 5) (N := some 156) (v := ?_) (a' := ?_) #[true, true, true, true, true, true, false] rfl rfl (by kernel_rfl) (fun _ _ _ h => h) (Or.inl ⟨by rfl, ?_⟩) hHeld ?_ ?_
                rotate_left
                · rintro w' ⟨hbe, s0, s1, s2, s3, s4, s5⟩
                  go_simp
                  first | done | with_reducible rfl
                rotate_left
                · simp only [Act.put, List.setIfInBounds_toArray, List.set_cons_zero, List.set_cons_succ, i64_w, i32_w]
                  rfl
                refine tail_list 6 (t := [6]) (fuel := 0) rfl rfl rfl (by kernel_rfl) (by decide) ?_
                clear hHeld p0 p1 p2 p3 p4 b0 b1 b2 b3 b4 b5 hlb hlp
                go_wp2_with fail
                refine HTK.out.mono ?_
                rintro r w9 ⟨rfl, hT9, hTu⟩
                have HP9 := Lib.hid ((HP9.out.below ((Below.refl w7.heap.size w7).drew)).step hTu (fun i hi => hi.2))
                have HT9 := Lib.hid hT9.swap
                clear hT9 hTu HTK
                go_wp2_with fail
                try simp only [Exit.inBlock, Exit.then]
                first | (refine bodyPost_ret (results_none rfl _ _ _) rfl ?_) | (refine bodyPost_end (results_none rfl _ _ _) rfl ?_)
                refine ⟨⟨_, rfl⟩, ?_⟩
                rw [HPS.out]
                unfold moved outL
                rw [if_neg HW5.out, HF1.out, if_neg (by simp)]
                rw [if_neg HW4.out]
                exact ⟨_, HT9.out, _, _, _, _, _, _, _, _, HP9.out⟩
  | false =>
    rw [hq] at m1
    have HQ := Lib.hid hq
    clear hq
    go_upto_region 17 with (fail)
    refine start_ (S := fun w' => Below wa.heap.size wa w' ∧ w'.cell? ⟨mb, 2, none⟩ = some (.int .i64 m.at_) ∧ w'.cell? ⟨pb, 2, none⟩ = some (.slice (some ⟨gl, 0, none⟩) N cl)) (ds := [8]) (n := 9) #[false, false, false, false, false, false, false, false, false] rfl rfl rfl ?hS0 (fun hHeld => ?hrun)
    case hS0 => exact ⟨(Below.refl _ _).drew, m2, p2⟩
    case hrun =>
      refine pure_ (i := 0) (N := some 102) (v := ?_) (a' := ?_) #[true, false, false, false, false, false, false, false, false] rfl rfl (by kernel_rfl) (fun _ _ _ h => h) (Or.inl ⟨by rfl, ?_⟩) ?_ ?_
      rotate_left
      · intro w'
        go_simp
        first | done | with_reducible rfl
      rotate_left
      · simp only [Act.put, List.setIfInBounds_toArray, List.set_cons_zero, List.set_cons_succ, i64_w, i32_w]
        rfl
      refine take_ (i := 1) (N := some 103) (v := ?_) (a' := ?_) #[true, true, false, false, false, false, false, false, false] rfl rfl (by kernel_rfl) (fun _ _ _ h => h) (Or.inl ⟨by rfl, ?_⟩) hHeld ?_ ?_
      rotate_left
      · rintro w' ⟨hbe, s0, s1⟩
        go_simp
        first | done | with_reducible rfl
      rotate_left
      · simp only [Act.put, List.setIfInBounds_toArray, List.set_cons_zero, List.set_cons_succ, i64_w, i32_w]
        rfl
      refine pure_ (i := 2) (N := some 104) (v := ?_) (a' := ?_) #[true, true, true, false, false, false, false, false, false] rfl rfl (by kernel_rfl) (fun _ _ _ h => h) (Or.inl ⟨by rfl, ?_⟩) ?_ ?_
      rotate_left
      · intro w'
        go_simp
        first | done | with_reducible rfl
      rotate_left
      · simp only [Act.put, List.setIfInBounds_toArray, List.set_cons_zero, List.set_cons_succ, i64_w, i32_w]
        rfl
      refine pure_ (i := 3) (N := some 105) (v := ?_) (a' := ?_) #[true, true, true, true, false, false, false, false, false] rfl rfl (by kernel_rfl) (fun _ _ _ h => h) (Or.inl ⟨by rfl, ?_⟩) ?_ ?_
      rotate_left
      · intro w'
        go_simp
        first | done | with_reducible rfl
      rotate_left
      · simp only [Act.put, List.setIfInBounds_toArray, List.set_cons_zero, List.set_cons_succ, i64_w, i32_w]
        rfl
      refine pure_ (i := 4) (N := some 106) (v := ?_) (a' := ?_) #[true, true, true, true, true, false, false, false, false] rfl rfl (by kernel_rfl) (fun _ _ _ h => h) (Or.inl ⟨by rfl, ?_⟩) ?_ ?_
      rotate_left
      · intro w'
        go_simp
        first | done | with_reducible rfl
      rotate_left
      · simp only [Act.put, List.setIfInBounds_toArray, List.set_cons_zero, List.set_cons_succ, i64_w, i32_w]
        rfl
      refine take_ (i := 5) (N := some 107) (v := ?_) (a' := ?_) #[true, true, true, true, true, true, false, false, false] rfl rfl (by kernel_rfl) (fun _ _ _ h => h) (Or.inl ⟨by rfl, ?_⟩) hHeld ?_ ?_
      rotate_left
      · rintro w' ⟨hbe, s0, s1⟩
        go_simp
        first | done | with_reducible rfl
      rotate_left
      · simp only [Act.put, List.setIfInBounds_toArray, List.set_cons_zero, List.set_cons_succ, i64_w, i32_w]
        rfl
      refine pure_ (i := 6) (N := some 108) (v := ?_) (a' := ?_) #[true, true, true, true, true, true, true, false, false] rfl rfl (by kernel_rfl) (fun _ _ _ h => h) (Or.inl ⟨by rfl, ?_⟩) ?_ ?_
      rotate_left
      · intro w'
        go_simp
        first | done | with_reducible rfl
      rotate_left
      · simp only [Act.put, List.setIfInBounds_toArray, List.set_cons_zero, List.set_cons_succ, i64_w, i32_w]
        rfl
      refine pure_ (i := 7) (N := some 109) (v := ?_) (a' := ?_) #[true, true, true, true, true, true, true, true, false] rfl rfl (by kernel_rfl) (fun _ _ _ h => h) (Or.inl ⟨by rfl, ?_⟩) ?_ ?_
      rotate_left
      · intro w'
        go_simp; rw [if_neg (by omega)]
        first | done | with_reducible rfl
      rotate_left
      · simp only [Act.put, List.setIfInBounds_toArray, List.set_cons_zero, List.set_cons_succ, i64_w, i32_w]
        rfl
      refine tail_list 8 (t := [8]) (fuel := 0) rfl rfl rfl (by kernel_rfl) (by decide) ?_
      obtain ⟨w2, hw2⟩ : ∃ w2, w2 = wa.drew := ⟨_, rfl⟩
      have hB2 : Below wa.heap.size wa w2 := by rw [hw2]; exact (Below.refl _ _).drew
      rw [← hw2]
      have HT2 := Lib.hid (HT.out.below hB2)
      have HP2 := Lib.hid (HP.out.below hB2)
      have HM2 := Lib.hid (show MBox w2 mb m D dn dc from blk_below HM.out hB2)
      clear hHeld m0 m1 m2 m3 p0 p1 p2 p3 p4 hlm hlp hw2 hB2 HT HP HM hgl hmod dA dN
      obtain ⟨cx, _, hM, hcx, _⟩ := Kd.R_elem HP2.out.rl (false, z24) (kq : Int) (by omega) (by rw [← HN.out]; omega)
      rw [Int.toNat_natCast, List.getD_eq_getElem?_getD, HX.out] at hM
      have hMx : kFly.M w2 w1.heap.size (fun k => Fl k ∧ k ≠ gl) x cx := hM
      obtain ⟨cs1, cs2, rfl, hb1, hM2⟩ := hMx
      have hb1' : cs1 = [.bool x.1] := hb1
      subst hb1'
      have hM3 : k24.M w2 w1.heap.size (fun k => Fl k ∧ k ≠ gl) x.2 cs2 := hM2
      obtain ⟨v4, rfl, hR4⟩ := k24_openM hM3
      have HD2 := Lib.hid (Kd.R_mono (ok' := Fl) hR4 (fun k hk => hk.1))
      obtain ⟨A4, c4, rfl⟩ := Kd.R_slice hR4
      obtain ⟨n4, hn4⟩ : ∃ n, n = x.2.f4.length := ⟨_, rfl⟩
      simp only [Int.toNat_natCast] at hcx
      rw [← hn4] at HD2 hcx
      have HN4 := Lib.hid hn4.symm
      have x0 : w2.cell? ⟨gl, kq * 6, none⟩ = some (.bool x.1) := hcx 0 _ rfl
      have x1 : w2.cell? ⟨gl, kq * 6 + 1, none⟩ = some (.int .i64 x.2.f0) := hcx 1 _ rfl
      have x2 : w2.cell? ⟨gl, kq * 6 + 2, none⟩ = some (.int .i64 x.2.f1) := hcx 2 _ rfl
      have x3 : w2.cell? ⟨gl, kq * 6 + 3, none⟩ = some (.bool x.2.f2) := hcx 3 _ rfl
      have x4 : w2.cell? ⟨gl, kq * 6 + 4, none⟩ = some (.int .i64 x.2.f3) := hcx 4 _ rfl
      have x5 : w2.cell? ⟨gl, kq * 6 + 5, none⟩ = some (.slice A4 n4 c4) := hcx 5 _ rfl
      obtain ⟨_, _, p2, _, _⟩ := HP2.out.cells
      rw [← HN.out] at p2
      have hlp := blk_lt HP2.out.blk
      have k1 : (kq : Int) < (N : Int) := by omega
      have k0 : (0 : Int) ≤ (kq : Int) := by omega
      clear hcx hM hM2 hM3 hR4 hb1 hn4
      go_upto_region 19 with (fail)
      obtain ⟨w3, hw3⟩ : ∃ w3, w3 = w2.alloc (.cells #[.bool x.1, .int .i64 x.2.f0, .int .i64 x.2.f1, .bool x.2.f2, .int .i64 x.2.f3, .slice A4 n4 c4] 80) := ⟨_, rfl⟩
      have hB3 : Below w2.heap.size w2 w3 := by rw [hw3]; exact (Below.refl _ _).alloc (Nat.le_refl _) _
      have hfb3 : FlyBox w3 w2.heap.size x A4 n4 c4 := by unfold FlyBox; rw [hw3]; exact heap_alloc_new w2 _
      obtain ⟨fb, hfb⟩ : ∃ fb, fb = w2.heap.size := ⟨_, rfl⟩
      rw [← hw3, ← hfb]
      rw [← hfb] at hfb3
      have HFB3 := Lib.hid hfb3
      have HT3 := Lib.hid (HT2.out.below hB3)
      have HP3 := Lib.hid (HP2.out.below hB3)
      have HM3 := Lib.hid (show MBox w3 mb m D dn dc from blk_below HM2.out hB3)
      have HD3 := Lib.hid (Kd.R_below HD2.out hB3)
      have HFP := Lib.hid (show fb ≠ pb from by have := blk_lt HP2.out.blk; omega)
      clear hw3 hB3 hfb3 hfb x0 x1 x2 x3 x4 x5 p2 hlp HT2 HP2 HM2 HD2
      obtain ⟨m0, m1, m2, m3⟩ := HM3.out.cells
      obtain ⟨p0, p1, p2, p3, p4⟩ := HP3.out.cells
      rw [← HN.out] at p2
      have hlm := blk_lt HM3.out
      have hlp := blk_lt HP3.out.blk
      have HKN := Lib.hid hKN
      by_cases h4 : m.what = 4
      · have d4 : (m.what != 4) = false := by rw [bne_eq_false_iff_eq]; exact h4
        have d5 : (m.what == 5) = false := by rw [beq_eq_false_iff_ne]; omega
        have HW4 := Lib.hid h4
        have HW5 := Lib.hid (show ¬ m.what = 5 by omega)
        obtain ⟨f0, hfst⟩ : ∃ f, f = x.1 := ⟨_, rfl⟩
        clear h4 p0 p1 p2 p3 p4 m1 m2 m3 hlp k1 k0
        cases f0 with
        | true =>
          have HF1 := Lib.hid hfst.symm
          clear hfst
          obtain ⟨b0, b1, b2, b3, b4, b5⟩ := HFB3.out.cells
          rw [HF1.out] at b0
          obtain ⟨p0, p1, p2, p3, p4⟩ := HP3.out.cells
          have hlb := blk_lt HFB3.out
          have hlp := blk_lt HP3.out.blk
          obtain ⟨_, _, hD1, hD2, hD3⟩ := Kd.R_reads HD3.out
          injection hD1 with hD4 hD5 hD6
          have htk := (HT3.out).step (fun S h => take_any w3 w1.heap.size g1 S p.a h HC.out.ac (by have := HC.out.as_; omega) x.2 A4 n4 c4 HN4.out (by rw [hD4, ← HN4.out]; exact Kd.C_below hD3 (Below.refl _ _)) (by rw [hD6, ← HN4.out]; exact hD2) (by rw [← HN4.out]; exact HC.out.lsz x (List.mem_of_getElem? HX.out)))
          have htk2 := (HT3.out.below ((Below.refl w3.heap.size w3).drew)).step (fun S h => take_any w3.drew w1.heap.size g1 S p.a h HC.out.ac (by have := HC.out.as_; omega) x.2 A4 n4 c4 HN4.out (by rw [hD4, ← HN4.out]; exact Kd.C_below hD3 ((Below.refl _ _).drew)) (by rw [hD6, ← HN4.out]; exact hD2) (by rw [← HN4.out]; exact HC.out.lsz x (List.mem_of_getElem? HX.out)))
          have HTK := Lib.hid htk2
          clear htk htk2 hD2 hD3 hD4 hD5 hD6
          go_upto_region 23 with (fail)
          refine start_ (S := fun w' => Below w3.heap.size w3 w' ∧ w'.cell? ⟨pb, 0, none⟩ = some (.pointer (some ⟨g1, 0, none⟩)) ∧ w'.cell? ⟨fb, 1, none⟩ = some (.int .i64 x.2.f0) ∧ w'.cell? ⟨fb, 2, none⟩ = some (.int .i64 x.2.f1) ∧ w'.cell? ⟨fb, 3, none⟩ = some (.bool x.2.f2) ∧ w'.cell? ⟨fb, 4, none⟩ = some (.int .i64 x.2.f3) ∧ w'.cell? ⟨fb, 5, none⟩ = some (.slice A4 n4 c4)) (ds := [6]) (n := 7) #[false, false, false, false, false, false, false] rfl rfl rfl ?hS0 (fun hHeld => ?hrun)
          case hS0 => exact ⟨(Below.refl _ _).drew, p0, b1, b2, b3, b4, b5⟩
          case hrun =>
            refine pure_ (i := 0) (N := some 144) (v := ?_) (a' := ?_) #[true, false, false, false, false, false, false] rfl rfl (by kernel_rfl) (fun _ _ _ h => h) (Or.inl ⟨by rfl, ?_⟩) ?_ ?_
            rotate_left
            · intro w'
              go_simp
              first | done | with_reducible rfl
            rotate_left
            · simp only [Act.put, List.setIfInBounds_toArray, List.set_cons_zero, List.set_cons_succ, i64_w, i32_w]
              rfl
            refine pure_ (i := 1) (N := some 145) (v := ?_) (a' := ?_) #[true, true, false, false, false, false, false] rfl rfl (by kernel_rfl) (fun _ _ _ h => h) (Or.inl ⟨by rfl, ?_⟩) ?_ ?_
            rotate_left
            · intro w'
              go_simp
              first | done | with_reducible rfl
            rotate_left
            · simp only [Act.put, List.setIfInBounds_toArray, List.set_cons_zero, List.set_cons_succ, i64_w, i32_w]
              rfl
            refine pure_ (i := 2) (N := some 146) (v := ?_) (a' := ?_) #[true, true, true, false, false, false, false] rfl rfl (by kernel_rfl) (fun _ _ _ h => h) (Or.inl ⟨by rfl, ?_⟩) ?_ ?_
            rotate_left
            · intro w'
              go_simp
              first | done | with_reducible rfl
            rotate_left
            · simp only [Act.put, List.setIfInBounds_toArray, List.set_cons_zero, List.set_cons_succ, i64_w, i32_w]
              rfl
            refine take_ (i := 3) (N := some 147) (v := ?_) (a' := ?_) #[true, true, true, true, false, false, false] rfl rfl (by kernel_rfl) (fun _ _ _ h => h) (Or.inl ⟨by rfl, ?_⟩) hHeld ?_ ?_
            rotate_left
            · rintro w' ⟨hbe, s0, s1, s2, s3, s4, s5⟩
              go_simp
              first | done | with_reducible rfl
            rotate_left
            · simp only [Act.put, List.setIfInBounds_toArray, List.set_cons_zero, List.set_cons_succ, i64_w, i32_w]
              rfl
            refine pure_ (i := 4) (N := some 148) (v := ?_) (a' := ?_) #[true, true, true, true, true, false, false] rfl rfl (by kernel_rfl) (fun _ _ _ h => h) (Or.inl ⟨by rfl, ?_⟩) ?_ ?_
            rotate_left
            · intro w'
              go_simp
              first | done | with_reducible rfl
            rotate_left
            · simp only [Act.put, List.setIfInBounds_toArray, List.set_cons_zero, List.set_cons_succ, i64_w, i32_w]
              rfl
            refine take_ (i := 5) (N := some 149) (v := ?_) (a' := ?_) #[true, true, true, true, true, true, false] rfl rfl (by kernel_rfl) (fun _ _ _ h => h) (Or.inl ⟨by rfl, ?_⟩) hHeld ?_ ?_
            rotate_left
            · rintro w' ⟨hbe, s0, s1, s2, s3, s4, s5⟩
              go_simp
              first | done | with_reducible rfl
            rotate_left
            · simp only [Act.put, List.setIfInBounds_toArray, List.set_cons_zero, List.set_cons_succ, i64_w, i32_w]
              rfl
            refine tail_list 6 (t := [6]) (fuel := 0) rfl rfl rfl (by kernel_rfl) (by decide) ?_
            clear hHeld p0 p1 p2 p3 p4 b0 b1 b2 b3 b4 b5 hlb hlp
            go_wp2_with fail
            refine HTK.out.mono ?_
            rintro r w9 ⟨rfl, hT9, hTu⟩
            have HP9 := Lib.hid ((HP3.out.below ((Below.refl w3.heap.size w3).drew)).step hTu (fun i hi => hi.2))
            have HT9 := Lib.hid hT9
            clear hT9 hTu HTK
            go_wp2_with fail
            try simp only [Exit.inBlock, Exit.then]
            first | (refine bodyPost_ret (results_none rfl _ _ _) rfl ?_) | (refine bodyPost_end (results_none rfl _ _ _) rfl ?_)
            refine ⟨⟨_, rfl⟩, ?_⟩
            rw [HPS.out]
            unfold moved outL
            rw [if_neg HW5.out, HF1.out, if_pos rfl]
            rw [if_pos HW4.out]
            exact ⟨_, HT9.out, _, _, _, _, _, _, _, _, HP9.out⟩
        | false =>
          have HF1 := Lib.hid hfst.symm
          clear hfst
          obtain ⟨b0, b1, b2, b3, b4, b5⟩ := HFB3.out.cells
          rw [HF1.out] at b0
          obtain ⟨p0, p1, p2, p3, p4⟩ := HP3.out.cells
          have hlb := blk_lt HFB3.out
          have hlp := blk_lt HP3.out.blk
          obtain ⟨_, _, hD1, hD2, hD3⟩ := Kd.R_reads HD3.out
          injection hD1 with hD4 hD5 hD6
          have htk := (HT3.out.swap).step (fun S h => take_any w3 w1.heap.size g2 S p.b h HC.out.bc (by have := HC.out.bs; omega) x.2 A4 n4 c4 HN4.out (by rw [hD4, ← HN4.out]; exact Kd.C_below hD3 (Below.refl _ _)) (by rw [hD6, ← HN4.out]; exact hD2) (by rw [← HN4.out]; exact HC.out.lsz x (List.mem_of_getElem? HX.out)))
          have htk2 := (HT3.out.swap.below ((Below.refl w3.heap.size w3).drew)).step (fun S h => take_any w3.drew w1.heap.size g2 S p.b h HC.out.bc (by have := HC.out.bs; omega) x.2 A4 n4 c4 HN4.out (by rw [hD4, ← HN4.out]; exact Kd.C_below hD3 ((Below.refl _ _).drew)) (by rw [hD6, ← HN4.out]; exact hD2) (by rw [← HN4.out]; exact HC.out.lsz x (List.mem_of_getElem? HX.out)))
          have HTK := Lib.hid htk2
          clear htk htk2 hD2 hD3 hD4 hD5 hD6
          go_upto_region 24 with (fail)
          refine start_ (S := fun w' => Below w3.heap.size w3 w' ∧ w'.cell? ⟨pb, 1, none⟩ = some (.pointer (some ⟨g2, 0, none⟩)) ∧ w'.cell? ⟨fb, 1, none⟩ = some (.int .i64 x.2.f0) ∧ w'.cell? ⟨fb, 2, none⟩ = some (.int .i64 x.2.f1) ∧ w'.cell? ⟨fb, 3, none⟩ = some (.bool x.2.f2) ∧ w'.cell? ⟨fb, 4, none⟩ = some (.int .i64 x.2.f3) ∧ w'.cell? ⟨fb, 5, none⟩ = some (.slice A4 n4 c4)) (ds := [6]) (n := 7) #[false, false, false, false, false, false, false] rfl rfl rfl ?hS0 (fun hHeld => ?hrun)
          case hS0 => exact ⟨(Below.refl _ _).drew, p1, b1, b2, b3, b4, b5⟩
          case hrun =>
            refine pure_ (i := 0) (N := some 151) (v := ?_) (a' := ?_) #[true, false, false, false, false, false, false] rfl rfl (by kernel_rfl) (fun _ _ _ h => h) (Or.inl ⟨by rfl, ?_⟩) ?_ ?_
            rotate_left
            · intro w'
              go_simp
              first | done | with_reducible rfl
            rotate_left
            · simp only [Act.put, List.setIfInBounds_toArray, List.set_cons_zero, List.set_cons_succ, i64_w, i32_w]
              rfl
            refine pure_ (i := 1) (N := some 152) (v := ?_) (a' := ?_) #[true, true, false, false, false, false, false] rfl rfl (by kernel_rfl) (fun _ _ _ h => h) (Or.inl ⟨by rfl, ?_⟩) ?_ ?_
            rotate_left
            · intro w'
              go_simp
              first | done | with_reducible rfl
            rotate_left
            · simp only [Act.put, List.setIfInBounds_toArray, List.set_cons_zero, List.set_cons_succ, i64_w, i32_w]
              rfl
            refine pure_ (i := 2) (N := some 153) (v := ?_) (a' := ?_) #[true, true, true, false, false, false, false] rfl rfl (by kernel_rfl) (fun _ _ _ h => h) (Or.inl ⟨by rfl, ?_⟩) ?_ ?_
            rotate_left
            · intro w'
              go_simp
              first | done | with_reducible rfl
            rotate_left
            · simp only [Act.put, List.setIfInBounds_toArray, List.set_cons_zero, List.set_cons_succ, i64_w, i32_w]
              rfl
            refine take_ (i := 3) (N := some 154) (v := ?_) (a' := ?_) #[true, true, true, true, false, false, false] rfl rfl (by kernel_rfl) (fun _ _ _ h => h) (Or.inl ⟨by rfl, ?_⟩) hHeld ?_ ?_
            rotate_left
            · rintro w' ⟨hbe, s0, s1, s2, s3, s4, s5⟩
              go_simp
              first | done | with_reducible rfl
            rotate_left
            · simp only [Act.put, List.setIfInBounds_toArray, List.set_cons_zero, List.set_cons_succ, i64_w, i32_w]
              rfl
            refine pure_ (i := 4) (N := some 155) (v := ?_) (a' := ?_) #[true, true, true, true, true, false, false] rfl rfl (by kernel_rfl) (fun _ _ _ h => h) (Or.inl ⟨by rfl, ?_⟩) ?_ ?_
            rotate_left
            · intro w'
              go_simp
              first | done | with_reducible rfl
            rotate_left
            · simp only [Act.put, List.setIfInBounds_toArray, List.set_cons_zero, List.set_cons_succ, i64_w, i32_w]
              rfl
            refine take_ (i := 5) (N := some 156) (v := ?_) (a' := ?_) #[true, true, true, true, true, true, false] rfl rfl (by kernel_rfl) (fun _ _ _ h => h) (Or.inl ⟨by rfl, ?_⟩) hHeld ?_ ?_
            rotate_left
            · rintro w' ⟨hbe, s0, s1, s2, s3, s4, s5⟩
              go_simp
              first | done | with_reducible rfl
            rotate_left
            · simp only [Act.put, List.setIfInBounds_toArray, List.set_cons_zero, List.set_cons_succ, i64_w, i32_w]
              rfl
            refine tail_list 6 (t := [6]) (fuel := 0) rfl rfl rfl (by kernel_rfl) (by decide) ?_
            clear hHeld p0 p1 p2 p3 p4 b0 b1 b2 b3 b4 b5 hlb hlp
            go_wp2_with fail
            refine HTK.out.mono ?_
            rintro r w9 ⟨rfl, hT9, hTu⟩
            have HP9 := Lib.hid ((HP3.out.below ((Below.refl w3.heap.size w3).drew)).step hTu (fun i hi => hi.2))
            have HT9 := Lib.hid hT9.swap
            clear hT9 hTu HTK
            go_wp2_with fail
            try simp only [Exit.inBlock, Exit.then]
            first | (refine bodyPost_ret (results_none rfl _ _ _) rfl ?_) | (refine bodyPost_end (results_none rfl _ _ _) rfl ?_)
            refine ⟨⟨_, rfl⟩, ?_⟩
            rw [HPS.out]
            unfold moved outL
            rw [if_neg HW5.out, HF1.out, if_neg (by simp)]
            rw [if_pos HW4.out]
            exact ⟨_, HT9.out, _, _, _, _, _, _, _, _, HP9.out⟩
      · have d4 : (m.what != 4) = true := by rw [bne_iff_ne]; exact h4
        have HW4 := Lib.hid h4
        have hcl : N ≤ cl := by have := (Kd.R_reads' HP3.out.rl).2.1; rw [HN.out]; exact this
        have k2 : (kq : Int) ≤ (cl : Int) := by omega
        have k6 : kq ≤ cl := by omega
        have k8 : (0 : Int) ≤ (kq : Int) + 1 := by omega
        have k10 : (kq : Int) + 1 ≤ (N : Int) := by omega
        have k9 : kq + 1 ≤ N := by omega
        obtain ⟨A16, h16, hA16⟩ : ∃ A16 : Option Addr, (if cl = kq + 1 then some (⟨gl, 0, none⟩ : Addr) else some ⟨gl, (kq + 1) * 6, none⟩) = A16 ∧ (0 < N - (kq + 1) → A16 = some ⟨gl, (kq + 1) * 6, none⟩) :=
          ⟨_, rfl, fun h => by rw [if_neg (by omega)]⟩
        have HA16 := Lib.hid hA16
        have HML := Lib.hid (kFly_M_of HP3.out.rl rfl)
        have hbr := HT3.out.hB.size
        have hfl3 : ∀ k, Fl k → k < w3.heap.size := fun k hk => (HP3.out.fb k (HP3.out.fl k hk).1).2
        have HFL := Lib.hid hfl3
        have HBR := Lib.hid hbr
        have HEM := Lib.hid (show Kd.R kFly 80 (w3.alloc (.cells #[] 80)).drew w1.heap.size (fun k => Fl k ∨ w3.heap.size ≤ k) (.slice (some ⟨w3.heap.size, 0, none⟩) 0 0) [] from Kd.R_drew (empty_fly hbr (.inr (Nat.le_refl _))))
        have HWE := Lib.hid (show Below w3.heap.size w3 (w3.alloc (.cells #[] 80)).drew from ((Below.refl w3.heap.size w3).alloc (Nat.le_refl _) _).drew)
        have HSZ := Lib.hid (show (w3.alloc (.cells #[] 80)).drew.heap.size = w3.heap.size + 1 from by simp)
        have k7 : wrap64 ((kq : Int) + 1) = ((kq + 1 : Nat) : Int) := wrap_succ (by have := HC.out.ll; have := HN.out; omega)
        clear h4 hA16 hfl3 hbr
        go_upto_region 20 with (fail)
        refine start_ (S := fun w' => Below w3.heap.size w3 w' ∧ w'.cell? ⟨pb, 2, none⟩ = some (.slice (some ⟨gl, 0, none⟩) N cl)) (ds := [17, 18, 19]) (n := 20) #[false, false, false, false, false, false, false, false, false, false, false, false, false, false, false, false, false, false, false, false] rfl rfl rfl ?hS0 (fun hHeld => ?hrun)
        case hS0 => exact ⟨(Below.refl _ _).drew, p2⟩
        case hrun =>
          refine pure_ (i := 0) (N := some 120) (v := ?_) (a' := ?_) #[true, false, false, false, false, false, false, false, false, false, false, false, false, false, false, false, false, false, false, false] rfl rfl (by kernel_rfl) (fun _ _ _ h => h) (Or.inl ⟨by rfl, ?_⟩) ?_ ?_
          rotate_left
          · intro w'
            go_simp
            first | done | with_reducible rfl
          rotate_left
          · simp only [Act.put, List.setIfInBounds_toArray, List.set_cons_zero, List.set_cons_succ, i64_w, i32_w]
            rfl
          refine pure_ (i := 2) (N := some 122) (v := ?_) (a' := ?_) #[true, false, true, false, false, false, false, false, false, false, false, false, false, false, false, false, false, false, false, false] rfl rfl (by kernel_rfl) (fun _ _ _ h => h) (Or.inl ⟨by rfl, ?_⟩) ?_ ?_
          rotate_left
          · intro w'
            go_simp
            first | done | with_reducible rfl
          rotate_left
          · simp only [Act.put, List.setIfInBounds_toArray, List.set_cons_zero, List.set_cons_succ, i64_w, i32_w]
            rfl
          refine pure_ (i := 3) (N := some 123) (v := ?_) (a' := ?_) #[true, false, true, true, false, false, false, false, false, false, false, false, false, false, false, false, false, false, false, false] rfl rfl (by kernel_rfl) (fun _ _ _ h => h) (Or.inl ⟨by rfl, ?_⟩) ?_ ?_
          rotate_left
          · intro w'
            go_simp
            first | done | with_reducible rfl
          rotate_left
          · simp only [Act.put, List.setIfInBounds_toArray, List.set_cons_zero, List.set_cons_succ, i64_w, i32_w]
            rfl
          refine pure_ (i := 4) (N := some 124) (v := ?_) (a' := ?_) #[true, false, true, true, true, false, false, false, false, false, false, false, false, false, false, false, false, false, false, false] rfl rfl (by kernel_rfl) (fun _ _ _ h => h) (Or.inl ⟨by rfl, ?_⟩) ?_ ?_
          rotate_left
          · intro w'
            go_simp
            first | done | with_reducible rfl
          rotate_left
          · simp only [Act.put, List.setIfInBounds_toArray, List.set_cons_zero, List.set_cons_succ, i64_w, i32_w]
            rfl
          refine take_ (i := 5) (N := some 125) (v := ?_) (a' := ?_) #[true, false, true, true, true, true, false, false, false, false, false, false, false, false, false, false, false, false, false, false] rfl rfl (by kernel_rfl) (fun _ _ _ h => h) (Or.inl ⟨by rfl, ?_⟩) hHeld ?_ ?_
          rotate_left
          · rintro w' ⟨hbe, s0⟩
            go_simp
            first | done | with_reducible rfl
          rotate_left
          · simp only [Act.put, List.setIfInBounds_toArray, List.set_cons_zero, List.set_cons_succ, i64_w, i32_w]
            rfl
          refine pure_ (i := 6) (N := some 126) (v := ?_) (a' := ?_) #[true, false, true, true, true, true, true, false, false, false, false, false, false, false, false, false, false, false, false, false] rfl rfl (by kernel_rfl) (fun _ _ _ h => h) (Or.inl ⟨by rfl, ?_⟩) ?_ ?_
          rotate_left
          · intro w'
            go_simp
            first | done | with_reducible rfl
          rotate_left
          · simp only [Act.put, List.setIfInBounds_toArray, List.set_cons_zero, List.set_cons_succ, i64_w, i32_w]
            rfl
          refine pure_ (i := 7) (N := some 127) (v := ?_) (a' := ?_) #[true, false, true, true, true, true, true, true, false, false, false, false, false, false, false, false, false, false, false, false] rfl rfl (by kernel_rfl) (fun _ _ _ h => h) (Or.inl ⟨by rfl, ?_⟩) ?_ ?_
          rotate_left
          · intro w'
            go_simp
            first | done | with_reducible rfl
          rotate_left
          · simp only [Act.put, List.setIfInBounds_toArray, List.set_cons_zero, List.set_cons_succ, i64_w, i32_w]
            rfl
          refine pure_ (i := 9) (N := some 129) (v := ?_) (a' := ?_) #[true, false, true, true, true, true, true, true, false, true, false, false, false, false, false, false, false, false, false, false] rfl rfl (by kernel_rfl) (fun _ _ _ h => h) (Or.inl ⟨by rfl, ?_⟩) ?_ ?_
          rotate_left
          · intro w'
            go_simp
            first | done | with_reducible rfl
          rotate_left
          · simp only [Act.put, List.setIfInBounds_toArray, List.set_cons_zero, List.set_cons_succ, i64_w, i32_w]
            rfl
          refine pure_ (i := 10) (N := some 130) (v := ?_) (a' := ?_) #[true, false, true, true, true, true, true, true, false, true, true, false, false, false, false, false, false, false, false, false] rfl rfl (by kernel_rfl) (fun _ _ _ h => h) (Or.inl ⟨by rfl, ?_⟩) ?_ ?_
          rotate_left
          · intro w'
            go_simp
            first | done | with_reducible rfl
          rotate_left
          · simp only [Act.put, List.setIfInBounds_toArray, List.set_cons_zero, List.set_cons_succ, i64_w, i32_w]
            rfl
          refine pure_ (i := 11) (N := some 131) (v := ?_) (a' := ?_) #[true, false, true, true, true, true, true, true, false, true, true, true, false, false, false, false, false, false, false, false] rfl rfl (by kernel_rfl) (fun _ _ _ h => h) (Or.inl ⟨by rfl, ?_⟩) ?_ ?_
          rotate_left
          · intro w'
            go_simp
            first | done | with_reducible rfl
          rotate_left
          · simp only [Act.put, List.setIfInBounds_toArray, List.set_cons_zero, List.set_cons_succ, i64_w, i32_w]
            rfl
          refine take_ (i := 12) (N := some 132) (v := ?_) (a' := ?_) #[true, false, true, true, true, true, true, true, false, true, true, true, true, false, false, false, false, false, false, false] rfl rfl (by kernel_rfl) (fun _ _ _ h => h) (Or.inl ⟨by rfl, ?_⟩) hHeld ?_ ?_
          rotate_left
          · rintro w' ⟨hbe, s0⟩
            go_simp
            first | done | with_reducible rfl
          rotate_left
          · simp only [Act.put, List.setIfInBounds_toArray, List.set_cons_zero, List.set_cons_succ, i64_w, i32_w]
            rfl
          refine pure_ (i := 13) (N := some 133) (v := ?_) (a' := ?_) #[true, false, true, true, true, true, true, true, false, true, true, true, true, true, false, false, false, false, false, false] rfl rfl (by kernel_rfl) (fun _ _ _ h => h) (Or.inl ⟨by rfl, ?_⟩) ?_ ?_
          rotate_left
          · intro w'
            go_simp
            first | done | with_reducible rfl
          rotate_left
          · simp only [Act.put, List.setIfInBounds_toArray, List.set_cons_zero, List.set_cons_succ, i64_w, i32_w]
            rfl
          refine pure_ (i := 14) (N := some 134) (v := ?_) (a' := ?_) #[true, false, true, true, true, true, true, true, false, true, true, true, true, true, true, false, false, false, false, false] rfl rfl (by kernel_rfl) (fun _ _ _ h => h) (Or.inl ⟨by rfl, ?_⟩) ?_ ?_
          rotate_left
          · intro w'
            go_simp
            first | done | with_reducible rfl
          rotate_left
          · simp only [Act.put, List.setIfInBounds_toArray, List.set_cons_zero, List.set_cons_succ, i64_w, i32_w]
            rfl
          refine pure_ (i := 15) (N := some 135) (v := ?_) (a' := ?_) #[true, false, true, true, true, true, true, true, false, true, true, true, true, true, true, true, false, false, false, false] rfl rfl (by kernel_rfl) (fun _ _ _ h => h) (Or.inl ⟨by rfl, ?_⟩) ?_ ?_
          rotate_left
          · intro w'
            go_simp
            first | done | with_reducible rfl
          rotate_left
          · simp only [Act.put, List.setIfInBounds_toArray, List.set_cons_zero, List.set_cons_succ, i64_w, i32_w]
            rfl
          refine one_ (i := 1) (N := some 121) #[true, true, true, true, true, true, true, true, false, true, true, true, true, true, true, true, false, false, false, false] rfl rfl (by kernel_rfl) (by decide) (fun K hK => ?_)
          refine value_ (by rfl) rfl (by go_simp; first | rfl | exact ⟨rfl, rfl⟩) ?_
          clear k7 k8 k10 k2
          refine hK.out _ _ ⟨HWE.out, pw_cell_below HWE.out p2⟩ (fun hHeld1 => ?_)
          clear hK K
          refine norm_ (a' := ?_) ?_ ?_
          rotate_left
          · show Act.put _ (some 121) _ = _
            simp only [Act.put, List.setIfInBounds_toArray, List.set_cons_zero, List.set_cons_succ, i64_w, i32_w]
            rfl
          refine one_ (i := 8) (N := some 128) #[true, true, true, true, true, true, true, true, true, true, true, true, true, true, true, true, false, false, false, false] rfl rfl (by kernel_rfl) (by decide) (fun K hK => ?_)
          refine Kd.R_append_rows_step (w0 := w1) kFly (Rr := kFly.M ((w3.alloc (.cells #[] 80)).drew) w1.heap.size Fl) w1.heap.size (by rfl) _ _ 53 80 (.agg #[.bool false, .int .i64 0, .int .i64 0, .bool false, .int .i64 0, .slice none 0 0]) 64 (by rfl) Tryd.underlying53 infoFly rfl (by decide) (by decide) (.slice (some ⟨w3.heap.size, 0, none⟩) 0 0) [] (p.l.take kq) (some ⟨gl, 0, none⟩) kq cl (fun k => Fl k ∨ w3.heap.size ≤ k) Fl (by rfl) (by rfl) ?ho1y ?hr1y (fun x cs h => h) ?hp1y ?hf1y ?hb1y ?hbase1y ?hl1y ?hk1y
          case ho1y => exact HEM.out
          case hr1y =>
            have h := row_part HML.out 0 kq (by have := HN.out; have := HKN.out; omega)
            rw [Nat.zero_mul, List.drop_zero] at h
            exact h.imp_ HWE.out (fun p c hp => kFly.M_move (fun k hk => HWE.out.block k (HFL.out k hk)) hp)
          case hp1y => exact fun k hk => ⟨.inl hk, fun e => by have := HFL.out k hk; simp [Value.ownBlock] at e; omega⟩
          case hf1y => exact fun k hk => .inr (by have h1 := HSZ.out; have h2 : (w3.alloc (.cells #[] 80)).drew.heap.size ≤ k := hk; omega)
          case hb1y => exact HT3.out.hB.trans (HWE.out.mono HBR.out)
          case hbase1y => have := HBR.out; have := HSZ.out; omega
          case hl1y => show (0 + kq) * 64 ≤ _; have := HC.out.ll; have := HN.out; have := HKN.out; omega
          intro v1 w5 hR1 _ hg1 hat1
          rw [List.nil_append] at hR1
          have hgW : Below w3.heap.size w3 w5 := Below.grown HWE.out hg1 (by have := HSZ.out; omega) (fun k e => by simp [Value.ownBlock] at e; omega)
          have hz1 := hgW.size
          have hown1 : ∀ k, k < w3.heap.size → some k ≠ v1.ownBlock := by
            intro k hk e
            rcases hat1 with h | ⟨b, h, hb⟩
            · rw [h] at e; simp [Value.ownBlock] at e; omega
            · rw [h] at e
              have h1 := Option.some.inj e
              have h2 := HSZ.out
              have h3 : (w3.alloc (.cells #[] 80)).drew.heap.size ≤ b := hb
              omega
          have HOW := Lib.hid hown1
          have hlt1 : (p.l.take kq).length = kq := by rw [List.length_take]; have := HN.out; have := HKN.out; omega
          obtain ⟨A1, c1, rfl⟩ := Kd.R_slice hR1
          rw [hlt1] at hR1 HOW ⊢
          have HR1 := Lib.hid hR1
          have HGW := Lib.hid hgW
          have HLT := Lib.hid hlt1
          clear hR1 hg1 hat1 hgW hown1 hlt1 hHeld hz1
          refine hK.out _ _ ⟨HGW.out, pw_cell_below HGW.out p2⟩ (fun hHeld2 => ?_)
          clear hK K
          refine norm_ (a' := ?_) ?_ ?_
          rotate_left
          · show Act.put _ (some 128) _ = _
            simp only [Act.put, List.setIfInBounds_toArray, List.set_cons_zero, List.set_cons_succ, i64_w, i32_w]
            rfl
          refine one_ (i := 16) (N := some 136) #[true, true, true, true, true, true, true, true, true, true, true, true, true, true, true, true, true, false, false, false] rfl rfl (by kernel_rfl) (by decide) (fun K hK => ?_)
          refine Kd.R_append_rows_step (w0 := w1) kFly (Rr := kFly.M w5 w1.heap.size Fl) w1.heap.size (by rfl) _ _ 53 80 (.agg #[.bool false, .int .i64 0, .int .i64 0, .bool false, .int .i64 0, .slice none 0 0]) 64 (by rfl) Tryd.underlying53 infoFly rfl (by decide) (by decide) (.slice A1 kq c1) (p.l.take kq) (p.l.drop (kq + 1)) A16 (N - (kq + 1)) (cl - (kq + 1)) (fun k => Fl k ∨ w3.heap.size ≤ k) Fl (by rfl) (by rfl) HR1.out ?hr2y (fun x cs h => h) ?hp2y ?hf2y ?hb2y ?hbase2y ?hl2y ?hk2y
          case hr2y =>
            rcases Nat.eq_zero_or_pos (N - (kq + 1)) with h0 | h0
            · rw [h0]
              exact ⟨by rw [List.length_drop]; have := HN.out; omega, by omega, fun h => by omega⟩
            · rw [HA16.out h0]
              have h := row_part HML.out (kq + 1) (N - (kq + 1)) (by have := HN.out; have := HKN.out; omega)
              rw [List.take_of_length_le (by rw [List.length_drop]; have := HN.out; omega)] at h
              exact h.imp_ HGW.out (fun p c hp => kFly.M_move (fun k hk => HGW.out.block k (HFL.out k hk)) hp)
          case hp2y => exact fun k hk => ⟨.inl hk, HOW.out k (HFL.out k hk)⟩
          case hf2y => exact fun k hk => .inr (by have := HGW.out.size; have h2 : w5.heap.size ≤ k := hk; omega)
          case hb2y => exact HT3.out.hB.trans (HGW.out.mono HBR.out)
          case hbase2y => have := HBR.out; have := HGW.out.size; omega
          case hl2y => rw [HLT.out]; have := HC.out.ll; have := HN.out; omega
          intro v2 w6 hR2 _ hg2 _
          rw [← List.eraseIdx_eq_take_drop_succ] at hR2
          have hgW2 : Below w3.heap.size w3 w6 := Below.grown HGW.out hg2 HGW.out.size (fun k e => Nat.le_of_not_lt (fun hk => HOW.out k hk e.symm))
          have HR2 := Lib.hid hR2
          have HG2 := Lib.hid hgW2
          obtain ⟨A3, c3, hv2⟩ := Kd.R_slice hR2
          subst hv2
          clear hR2 hg2 hgW2
          refine hK.out _ _ ⟨HG2.out, pw_cell_below HG2.out p2⟩ (fun hHeld3 => ?_)
          clear hK K
          refine norm_ (a' := ?_) ?_ ?_
          rotate_left
          · show Act.put _ (some 136) _ = _
            simp only [Act.put, List.setIfInBounds_toArray, List.set_cons_zero, List.set_cons_succ, i64_w, i32_w]
            rfl
          refine tail_list 17 (t := [17, 18, 19]) (fuel := 0) rfl rfl rfl (by kernel_rfl) (by decide) ?_
          have hgn : w3.grownBy w6 none := ⟨HG2.out.os, HG2.out.tape, HG2.out.output, HG2.out.size, fun k hk _ => HG2.out.block k hk⟩
          obtain ⟨hp9, hTF, hP9⟩ := HP3.out.putL HBR.out (X := Fl) (fun k hk => HP3.out.fl k hk) HR2.out hgn (fun k e => by cases e)
          have hfb9 : FlyBox (w6.setCell ⟨pb, 2, none⟩ (.slice A3 (p.l.eraseIdx kq).length c3)) fb x A4 n4 c4 := by
            unfold FlyBox
            rw [Below.heap_setCell _ _ _ _ (show fb ≠ (⟨pb, 2, none⟩ : Addr).block from HFP.out)]
            exact blk_below HFB3.out HG2.out
          have hm9 : MBox (w6.setCell ⟨pb, 2, none⟩ (.slice A3 (p.l.eraseIdx kq).length c3)) mb m D dn dc := by
            unfold MBox
            rw [Below.heap_setCell _ _ _ _ (show mb ≠ (⟨pb, 2, none⟩ : Addr).block from HF.out.2.1)]
            exact blk_below HM3.out HG2.out
          have hd9 : Kd.R (Kd.int .u8) 5 (w6.setCell ⟨pb, 2, none⟩ (.slice A3 (p.l.eraseIdx kq).length c3)) w1.heap.size Fl (.slice A4 n4 c4) x.2.f4 :=
            Kd.R_far (Kd.R_step HD3.out (fun k hk hl => HG2.out.block k (HFL.out k hk))) (fun k hk => (HP3.out.fl k hk).2.1) _
          have hT9 := HT3.out.widen hTF (fun i hi => (HP3.out.fb i hi).1)
          rw [since_set] at hT9
          obtain ⟨_, _, q2, _, _⟩ := cells5 hp9
          rw [← HN.out] at q2
          have hf9 := blk_frozen hp9 2
          have hl9 := blk_lt hp9
          obtain ⟨ne, hne⟩ : ∃ n, n = (p.l.eraseIdx kq).length := ⟨_, rfl⟩
          rw [← hne] at hT9 hP9 hfb9 hm9 hd9 ⊢
          have HT9 := Lib.hid hT9
          have HP9 := Lib.hid hP9
          have HFB9 := Lib.hid hfb9
          have HM9 := Lib.hid hm9
          have HD9 := Lib.hid hd9
          clear hgn hp9 hTF hP9 hfb9 hm9 hd9 hT9 hne p0 p1 p2 p3 p4 m0 m1 m2 m3 hlm hlp hHeld1 hHeld2 hHeld3 k0 k1 k6 k9 h16 hcl
          go_upto_region 21 with (fail)
          obtain ⟨w7, hw7⟩ : ∃ w7, w7 = w6.setCell ⟨pb, 2, none⟩ (.slice A3 ne c3) := ⟨_, rfl⟩
          rw [← hw7] at HT9 HP9 HFB9 HM9 HD9 ⊢
          obtain ⟨F9, hF9⟩ : ∃ F9, F9 = Since F2 w3 w6 := ⟨_, rfl⟩
          rw [← hF9] at HT9 HP9
          clear q2 hf9 hl9 hw7 hF9
          obtain ⟨m0, m1, m2, m3⟩ := HM9.out.cells
          have hlm := blk_lt HM9.out
          by_cases h5 : m.what = 5
          · have d5 : (m.what == 5) = true := by rw [beq_iff_eq]; exact h5
            have HW5 := Lib.hid h5
            clear h5
            go_wp2_with fail
            try simp only [Exit.inBlock, Exit.then]
            first | (refine bodyPost_ret (results_none rfl _ _ _) rfl ?_) | (refine bodyPost_end (results_none rfl _ _ _) rfl ?_)
            refine ⟨⟨_, rfl⟩, ?_⟩
            rw [HPS.out]
            unfold moved outL
            rw [if_pos HW5.out, if_neg HW4.out]
            exact ⟨_, HT9.out, _, _, _, _, _, _, _, _, HP9.out⟩
          · have d5 : (m.what == 5) = false := by rw [beq_eq_false_iff_ne]; exact h5
            have HW5 := Lib.hid h5
            obtain ⟨f0, hfst⟩ : ∃ f, f = x.1 := ⟨_, rfl⟩
            clear h5 m1 m2 m3
            cases f0 with
            | true =>
              have HF1 := Lib.hid hfst.symm
              clear hfst
              obtain ⟨b0, b1, b2, b3, b4, b5⟩ := HFB9.out.cells
              rw [HF1.out] at b0
              obtain ⟨p0, p1, p2, p3, p4⟩ := HP9.out.cells
              have hlb := blk_lt HFB9.out
              have hlp := blk_lt HP9.out.blk
              obtain ⟨_, _, hD1, hD2, hD3⟩ := Kd.R_reads HD9.out
              injection hD1 with hD4 hD5 hD6
              have htk := (HT9.out).step (fun S h => take_any w7 w1.heap.size g1 S p.a h HC.out.ac (by have := HC.out.as_; omega) x.2 A4 n4 c4 HN4.out (by rw [hD4, ← HN4.out]; exact Kd.C_below hD3 (Below.refl _ _)) (by rw [hD6, ← HN4.out]; exact hD2) (by rw [← HN4.out]; exact HC.out.lsz x (List.mem_of_getElem? HX.out)))
              have htk2 := (HT9.out.below ((Below.refl w7.heap.size w7).drew)).step (fun S h => take_any w7.drew w1.heap.size g1 S p.a h HC.out.ac (by have := HC.out.as_; omega) x.2 A4 n4 c4 HN4.out (by rw [hD4, ← HN4.out]; exact Kd.C_below hD3 ((Below.refl _ _).drew)) (by rw [hD6, ← HN4.out]; exact hD2) (by rw [← HN4.out]; exact HC.out.lsz x (List.mem_of_getElem? HX.out)))
              have HTK := Lib.hid htk2
              clear htk htk2 hD2 hD3 hD4 hD5 hD6
              go_upto_region 23 with (fail)
              refine start_ (S := fun w' => Below w7.heap.size w7 w' ∧ w'.cell? ⟨pb, 0, none⟩ = some (.pointer (some ⟨g1, 0, none⟩)) ∧ w'.cell? ⟨fb, 1, none⟩ = some (.int .i64 x.2.f0) ∧ w'.cell? ⟨fb, 2, none⟩ = some (.int .i64 x.2.f1) ∧ w'.cell? ⟨fb, 3, none⟩ = some (.bool x.2.f2) ∧ w'.cell? ⟨fb, 4, none⟩ = some (.int .i64 x.2.f3) ∧ w'.cell? ⟨fb, 5, none⟩ = some (.slice A4 n4 c4)) (ds := [6]) (n := 7) #[false, false, false, false, false, false, false] rfl rfl rfl ?hS0 (fun hHeld => ?hrun)
              case hS0 => exact ⟨(Below.refl _ _).drew, p0, b1, b2, b3, b4, b5⟩
              case hrun =>
                refine pure_ (i := 0) (N := some 144) (v := ?_) (a' := ?_) #[true, false, false, false, false, false, false] rfl rfl (by kernel_rfl) (fun _ _ _ h => h) (Or.inl ⟨by rfl, ?_⟩) ?_ ?_
                rotate_left
                · intro w'
                  go_simp
                  first | done | with_reducible rfl
                rotate_left
                · simp only [Act.put, List.setIfInBounds_toArray, List.set_cons_zero, List.set_cons_succ, i64_w, i32_w]
                  rfl
                refine pure_ (i := 1) (N := some 145) (v := ?_) (a' := ?_) #[true, true, false, false, false, false, false] rfl rfl (by kernel_rfl) (fun _ _ _ h => h) (Or.inl ⟨by rfl, ?_⟩) ?_ ?_
                rotate_left
                · intro w'
                  go_simp
                  first | done | with_reducible rfl
                rotate_left
                · simp only [Act.put, List.setIfInBounds_toArray, List.set_cons_zero, List.set_cons_succ, i64_w, i32_w]
                  rfl
                refine pure_ (i := 2) (N := some 146) (v := ?_) (a' := ?_) #[true, true, true, false, false, false, false] rfl rfl (by kernel_rfl) (fun _ _ _ h => h) (Or.inl ⟨by rfl, ?_⟩) ?_ ?_
                rotate_left
                · intro w'
                  go_simp
                  first | done | with_reducible rfl
                rotate_left
                · simp only [Act.put, List.setIfInBounds_toArray, List.set_cons_zero, List.set_cons_succ, i64_w, i32_w]
                  rfl
                refine take_ (i := 3) (N := some 147) (v := ?_) (a' := ?_) #[true, true, true, true, false, false, false] rfl rfl (by kernel_rfl) (fun _ _ _ h => h) (Or.inl ⟨by rfl, ?_⟩) hHeld ?_ ?_
                rotate_left
                · rintro w' ⟨hbe, s0, s1, s2, s3, s4, s5⟩
                  go_simp
                  first | done | with_reducible rfl
                rotate_left
                · simp only [Act.put, List.setIfInBounds_toArray, List.set_cons_zero, List.set_cons_succ, i64_w, i32_w]
                  rfl
                refine pure_ (i := 4) (N := some 148) (v := ?_) (a' := ?_) #[true, true, true, true, true, false, false] rfl rfl (by kernel_rfl) (fun _ _ _ h => h) (Or.inl ⟨by rfl, ?_⟩) ?_ ?_
                rotate_left
                · intro w'
                  go_simp
                  first | done | with_reducible rfl
                rotate_left
                · simp only [Act.put, List.setIfInBounds_toArray, List.set_cons_zero, List.set_cons_succ, i64_w, i32_w]
                  rfl
                refine take_ (i := 5) (N := some 149) (v := ?_) (a' := ?_) #[true, true, true, true, true, true, false] rfl rfl (by kernel_rfl) (fun _ _ _ h => h) (Or.inl ⟨by rfl, ?_⟩) hHeld ?_ ?_
                rotate_left
                · rintro w' ⟨hbe, s0, s1, s2, s3, s4, s5⟩
                  go_simp
                  first | done | with_reducible rfl
                rotate_left
                · simp only [Act.put, List.setIfInBounds_toArray, List.set_cons_zero, List.set_cons_succ, i64_w, i32_w]
                  rfl
                refine tail_list 6 (t := [6]) (fuel := 0) rfl rfl rfl (by kernel_rfl) (by decide) ?_
                clear hHeld p0 p1 p2 p3 p4 b0 b1 b2 b3 b4 b5 hlb hlp
                go_wp2_with fail
                refine HTK.out.mono ?_
                rintro r w9 ⟨rfl, hT9, hTu⟩
                have HP9 := Lib.hid ((HP9.out.below ((Below.refl w7.heap.size w7).drew)).step hTu (fun i hi => hi.2))
                have HT9 := Lib.hid hT9
                clear hT9 hTu HTK
                go_wp2_with fail
                try simp only [Exit.inBlock, Exit.then]
                first | (refine bodyPost_ret (results_none rfl _ _ _) rfl ?_) | (refine bodyPost_end (results_none rfl _ _ _) rfl ?_)
                refine ⟨⟨_, rfl⟩, ?_⟩
                rw [HPS.out]
                unfold moved outL
                rw [if_neg HW5.out, HF1.out, if_pos rfl]
                rw [if_neg HW4.out]
                exact ⟨_, HT9.out, _, _, _, _, _, _, _, _, HP9.out⟩
            | false =>
              have HF1 := Lib.hid hfst.symm
              clear hfst
              obtain ⟨b0, b1, b2, b3, b4, b5⟩ := HFB9.out.cells
              rw [HF1.out] at b0
              obtain ⟨p0, p1, p2, p3, p4⟩ := HP9.out.cells
              have hlb := blk_lt HFB9.out
              have hlp := blk_lt HP9.out.blk
              obtain ⟨_, _, hD1, hD2, hD3⟩ := Kd.R_reads HD9.out
              injection hD1 with hD4 hD5 hD6
              have htk := (HT9.out.swap).step (fun S h => take_any w7 w1.heap.size g2 S p.b h HC.out.bc (by have := HC.out.bs; omega) x.2 A4 n4 c4 HN4.out (by rw [hD4, ← HN4.out]; exact Kd.C_below hD3 (Below.refl _ _)) (by rw [hD6, ← HN4.out]; exact hD2) (by rw [← HN4.out]; exact HC.out.lsz x (List.mem_of_getElem? HX.out)))
              have htk2 := (HT9.out.swap.below ((Below.refl w7.heap.size w7).drew)).step (fun S h => take_any w7.drew w1.heap.size g2 S p.b h HC.out.bc (by have := HC.out.bs; omega) x.2 A4 n4 c4 HN4.out (by rw [hD4, ← HN4.out]; exact Kd.C_below hD3 ((Below.refl _ _).drew)) (by rw [hD6, ← HN4.out]; exact hD2) (by rw [← HN4.out]; exact HC.out.lsz x (List.mem_of_getElem? HX.out)))
              have HTK := Lib.hid htk2
              clear htk htk2 hD2 hD3 hD4 hD5 hD6
              go_upto_region 24 with (fail)
              refine start_ (S := fun w' => Below w7.heap.size w7 w' ∧ w'.cell? ⟨pb, 1, none⟩ = some (.pointer (some ⟨g2, 0, none⟩)) ∧ w'.cell? ⟨fb, 1, none⟩ = some (.int .i64 x.2.f0) ∧ w'.cell? ⟨fb, 2, none⟩ = some (.int .i64 x.2.f1) ∧ w'.cell? ⟨fb, 3, none⟩ = some (.bool x.2.f2) ∧ w'.cell? ⟨fb, 4, none⟩ = some (.int .i64 x.2.f3) ∧ w'.cell? ⟨fb, 5, none⟩ = some (.slice A4 n4 c4)) (ds := [6]) (n := 7) #[false, false, false, false, false, false, false] rfl rfl rfl ?hS0 (fun hHeld => ?hrun)
              case hS0 => exact ⟨(Below.refl _ _).drew, p1, b1, b2, b3, b4, b5⟩
              case hrun =>
                refine pure_ (i := 0) (N := some 151) (v := ?_) (a' := ?_) #[true, false, false, false, false, false, false] rfl rfl (by kernel_rfl) (fun _ _ _ h => h) (Or.inl ⟨by rfl, ?_⟩) ?_ ?_
                rotate_left
                · intro w'
                  go_simp
                  first | done | with_reducible rfl
                rotate_left
                · simp only [Act.put, List.setIfInBounds_toArray, List.set_cons_zero, List.set_cons_succ, i64_w, i32_w]
                  rfl
                refine pure_ (i := 1) (N := some 152) (v := ?_) (a' := ?_) #[true, true, false, false, false, false, false] rfl rfl (by kernel_rfl) (fun _ _ _ h => h) (Or.inl ⟨by rfl, ?_⟩) ?_ ?_
                rotate_left
                · intro w'
                  go_simp
                  first | done | with_reducible rfl
                rotate_left
                · simp only [Act.put, List.setIfInBounds_toArray, List.set_cons_zero, List.set_cons_succ, i64_w, i32_w]
                  rfl
                refine pure_ (i := 2) (N := some 153) (v := ?_) (a' := ?_) #[true, true, true, false, false, false, false] rfl rfl (by kernel_rfl) (fun _ _ _ h => h) (Or.inl ⟨by rfl, ?_⟩) ?_ ?_
                rotate_left
                · intro w'
                  go_simp
                  first | done | with_reducible rfl
                rotate_left
                · simp only [Act.put, List.setIfInBounds_toArray, List.set_cons_zero, List.set_cons_succ, i64_w, i32_w]
                  rfl
                refine take_ (i := 3) (N := some 154) (v := ?_) (a' := ?_) #[true, true, true, true, false, false, false] rfl rfl (by kernel_rfl) (fun _ _ _ h => h) (Or.inl ⟨by rfl, ?_⟩) hHeld ?_ ?_
                rotate_left
                · rintro w' ⟨hbe, s0, s1, s2, s3, s4, s5⟩
                  go_simp
                  first | done | with_reducible rfl
                rotate_left
                · simp only [Act.put, List.setIfInBounds_toArray, List.set_cons_zero, List.set_cons_succ, i64_w, i32_w]
                  rfl
                refine pure_ (i := 4) (N := some 155) (v := ?_) (a' := ?_) #[true, true, true, true, true, false, false] rfl rfl (by kernel_rfl) (fun _ _ _ h => h) (Or.inl ⟨by rfl, ?_⟩) ?_ ?_
                rotate_left
                · intro w'
                  go_simp
                  first | done | with_reducible rfl
                rotate_left
                · simp only [Act.put, List.setIfInBounds_toArray, List.set_cons_zero, List.set_cons_succ, i64_w, i32_w]
                  rfl
                refine take_ (i := 5) (N := some 156) (v := ?_) (a' := ?_) #[true, true, true, true, true, true, false] rfl rfl (by kernel_rfl) (fun _ _ _ h => h) (Or.inl ⟨by rfl, ?_⟩) hHeld ?_ ?_
                rotate_left
                · rintro w' ⟨hbe, s0, s1, s2, s3, s4, s5⟩
                  go_simp
                  first | done | with_reducible rfl
                rotate_left
                · simp only [Act.put, List.setIfInBounds_toArray, List.set_cons_zero, List.set_cons_succ, i64_w, i32_w]
                  rfl
                refine tail_list 6 (t := [6]) (fuel := 0) rfl rfl rfl (by kernel_rfl) (by decide) ?_
                clear hHeld p0 p1 p2 p3 p4 b0 b1 b2 b3 b4 b5 hlb hlp
                go_wp2_with fail
                refine HTK.out.mono ?_
                rintro r w9 ⟨rfl, hT9, hTu⟩
                have HP9 := Lib.hid ((HP9.out.below ((Below.refl w7.heap.size w7).drew)).step hTu (fun i hi => hi.2))
                have HT9 := Lib.hid hT9.swap
                clear hT9 hTu HTK
                go_wp2_with fail
                try simp only [Exit.inBlock, Exit.then]
                first | (refine bodyPost_ret (results_none rfl _ _ _) rfl ?_) | (refine bodyPost_end (results_none rfl _ _ _) rfl ?_)
                refine ⟨⟨_, rfl⟩, ?_⟩
                rw [HPS.out]
                unfold moved outL
                rw [if_neg HW5.out, HF1.out, if_neg (by simp)]
                rw [if_neg HW4.out]
                exact ⟨_, HT9.out, _, _, _, _, _, _, _, _, HP9.out⟩
end Go.Proofs.YthfgkkpibkkiaaaDoor
