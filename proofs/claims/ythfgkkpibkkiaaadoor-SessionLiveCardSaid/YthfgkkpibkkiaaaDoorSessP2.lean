-- PRINTED BY print.sh 35421559b90ae4d0a3588c463048766b98c2df88dd9212a6774a882060cdf62d: not written by this session
import Derived.Test.YthfgkkpibkkiaaaDoorPSessionPlaysx0
import Derived.Test.YthfgkkpibkkiaaaDoorSessP1
namespace Go.Proofs.YthfgkkpibkkiaaaDoor.PSessionPlays
open Go.RowKit Go.Proofs.YthfgkkpibkkiaaaDoorW.PrintWords Go.Proofs.YthfgkkpibkkiaaaDoorW.PrintLast Go.Proofs.YthfgkkpibkkiaaaDoorW.PrintMore
attribute [local go_sem] max2_int min2_int max_two min_two max_three min_three max_four min_four   -- for this text's walks alone
set_option linter.unusedVariables false
set_option linter.unusedSimpArgs false

/-! ### counterpaneref20_SameList: function 21 -/
def counterpaneref20_SameList.l0 : Nat → List (S24) → List (S24) → Int → Option (Bool)
  | 0, _, _, _ => none
  | k + 1, x0, x1, x5 => if x5 < (x0.length : Int) then (if 0 ≤ x5 then (if x5 < (x1.length : Int) then ((counterpaneref20_Same.f ((rd_T24 x0 x5).f0) ((rd_T24 x0 x5).f1) ((rd_T24 x0 x5).f2) ((rd_T24 x0 x5).f3) ((rd_T24 x0 x5).f4) ((rd_T24 x1 x5).f0) ((rd_T24 x1 x5).f1) ((rd_T24 x1 x5).f2) ((rd_T24 x1 x5).f3) ((rd_T24 x1 x5).f4)).bind fun t158 => (if t158 = true then (counterpaneref20_SameList.l0 k x0 x1 (wrap64 (x5 + 1))) else (some false))) else (none)) else (none)) else (some true)
def counterpaneref20_SameList.f (k : Nat) (l0 : List (S24)) (l1 : List (S24)) : Option (Bool) := if (l0.length : Int) = (l1.length : Int) then (counterpaneref20_SameList.l0 k l0 l1 0) else (some false)
theorem counterpaneref20_SameList.mono_l : ∀ k, (∀ y0 y1 y2, LeO (counterpaneref20_SameList.l0 k y0 y1 y2) (counterpaneref20_SameList.l0 (k + 1) y0 y1 y2))
  | 0 => fun _ _ _ r h => by simp [counterpaneref20_SameList.l0] at h
  | k + 1 => by
    have ih0 := counterpaneref20_SameList.mono_l k
    · intro y0 y1 y2
      unfold counterpaneref20_SameList.l0
      repeat' first
      | (with_reducible exact ih0 _ _ _)
      | (with_reducible exact LeO.refl _)
      | (with_reducible exact LeO.none _)
      | (with_reducible refine LeO.ite ?_ ?_)
      | (with_reducible refine LeO.bind ?_ (fun _ => ?_))
      | exact ih0 _ _ _
      | exact LeO.none _
      | refine LeO.ite ?_ ?_
      | refine LeO.bind ?_ (fun _ => ?_)
theorem counterpaneref20_SameList.mono : ∀ a0 a1 k, LeO (counterpaneref20_SameList.f k a0 a1) (counterpaneref20_SameList.f (k + 1) a0 a1) := by
  intro a0 a1 k
  have ih0 := counterpaneref20_SameList.mono_l k
  unfold counterpaneref20_SameList.f
  repeat' first
      | (with_reducible exact ih0 _ _ _)
      | (with_reducible exact LeO.refl _)
      | (with_reducible exact LeO.none _)
      | (with_reducible refine LeO.ite ?_ ?_)
      | (with_reducible refine LeO.bind ?_ (fun _ => ?_))
      | exact ih0 _ _ _
      | exact LeO.none _
      | refine LeO.ite ?_ ?_
      | refine LeO.bind ?_ (fun _ => ?_)
def counterpaneref20_SameList.T6 : Bool × List (List Nat × List Nat) := (true, [([], []), ([], []), ([0, 1], [0, 1]), ([2], [2]), ([], []), ([], []), ([4, 5], [4, 5]), ([6], [6]), ([3, 7], [3, 7]), ([8], [8])])
def counterpaneref20_SameList.B6 : List Nat := [0, 0, 3, 7, 0, 0, 48, 112, 255, 511]
theorem counterpaneref20_SameList.tab6 : rtab .any (opsOf Tryd.f21 6) = counterpaneref20_SameList.T6 := by kernel_rfl
theorem counterpaneref20_SameList.bits6 : waitsOk counterpaneref20_SameList.T6.2 counterpaneref20_SameList.B6 = true := by kernel_rfl
set_option maxHeartbeats 8000000 in
set_option maxRecDepth 100000 in
theorem counterpaneref20_SameList.calls (k : Nat) (A0 : Option Addr) (c0 : Nat) (l0 : List (S24)) (A1 : Option Addr) (c1 : Nat) (l1 : List (S24)) (r : Bool) (w : World) (hr0 : Kd.C k24 w A0 l0.length l0) (hc0 : l0.length ≤ c0) (hr1 : Kd.C k24 w A1 l1.length l1) (hc1 : l1.length ≤ c1) (h : counterpaneref20_SameList.f k l0 l1 = some r) :
    Calls Tryd.prog 21 #[.slice A0 l0.length c0, .slice A1 l1.length c1] w fun e w' => e = .returned (.bool r) ∧ Below w.heap.size w w' := by
  have hu24 := Tryd.underlying24
  have HR0 := Aside0.mk hr0
  have HC0 := Aside0.mk hc0
  clear hr0 hc0
  have HR1 := Aside0.mk hr1
  have HC1 := Aside0.mk hc1
  clear hr1 hc1
  have HB := Aside0.mk (Below.refl w.heap.size w)
  have H : (if (l0.length : Int) = (l1.length : Int) then (counterpaneref20_SameList.l0 k l0 l1 0) else (some false)) = some r := h
  clear h
  by_cases c3 : (l0.length : Int) = (l1.length : Int)
  · rw [if_pos c3] at H
    have c3b0 : ((l0.length : Int) == (l1.length : Int)) = true := beq_iff_eq.mpr c3
    have c3b1 : ((l0.length : Int) != (l1.length : Int)) = false := bne_eq_false_iff_eq.mpr c3
    have c3b2 : (l0.length == l1.length) = true := by first | simpa using c3 | (simp at c3 ⊢; omega)
    clear c3
    have H' := Aside0.mk H
    clear H
    go_enter Tryd.func21, Tryd.ntmps21
    go_wp2
    go_loopg [5] k (fun kq v5 w' => ∃ (x5_1 : Int), v5 = .int .i64 x5_1 ∧ Aside0 (counterpaneref20_SameList.l0 kq l0 l1 x5_1 = some r) ∧ Aside0 (kq ≤ k) ∧ Aside0 (Below w.heap.size w w'))
    case atStart => exact ⟨(0), (by first | rfl | (simp; done) | (simp [*]; done)), H', ⟨Nat.le_refl _⟩, ⟨by repeat (first | (with_reducible first | exact HB.out | apply below_alloc | apply pw_below_drewN | apply below_drew1) | exact HB.out)⟩⟩
    case round =>
      clear H'
      try clear c1
      try clear c2
      try clear p2
      try clear c3
      try clear c3b0
      try clear c3b1
      try clear c3b2
      obtain ⟨x5_1, rfl, HA, HK1, HB⟩ := hrel
      cases gk with
      | zero => exact absurd HA.out (by simp [counterpaneref20_SameList.l0])
      | succ k1 =>
        have H := HA.out
        clear HA
        simp only [counterpaneref20_SameList.l0] at H
        by_cases c4 : x5_1 < (l0.length : Int)
        · rw [if_pos c4] at H
          have c4b0 : decide (x5_1 < (l0.length : Int)) = true := decide_eq_true c4
          clear c4
          by_cases c5 : 0 ≤ x5_1
          · rw [if_pos c5] at H
            have c5b0 : decide (0 ≤ x5_1) = true := decide_eq_true c5
            clear c5
            by_cases c6 : x5_1 < (l1.length : Int)
            · rw [if_pos c6] at H
              have c6b0 : decide (x5_1 < (l1.length : Int)) = true := decide_eq_true c6
              clear c6
              replace H := Option.bind_eq_some_iff.mp H
              obtain ⟨t158, A70, H⟩ := H
              replace H : (if t158 = true then (counterpaneref20_SameList.l0 k1 l0 l1 (wrap64 (x5_1 + 1))) else (some false)) = some r := H
              have A7 := Aside0.mk A70
              clear A70
              by_cases c8 : t158 = true
              · subst c8
                have H1 : (counterpaneref20_SameList.l0 k1 l0 l1 (wrap64 (x5_1 + 1))) = some r := by rw [if_pos rfl] at H; exact H
                clear H
                have H := H1
                clear H1
                have H' := Aside0.mk H
                clear H
                try go_wp2
                have n0_ := Aside0.mk (below_drew1 HB.out)
                clear HB
                have HB := n0_
                clear n0_
                have p156 : 0 ≤ (x5_1 : Int) := of_decide_eq_true (by first | (with_reducible assumption) | assumption)
                have q156 : x5_1 < (l0.length : Int) := of_decide_eq_true (by first | (with_reducible assumption) | assumption)
                obtain ⟨ad156, A156_4, c156_4, e156, hx156_0, hx156_1, hx156_2, hx156_3, hx156_4, hl156_4, hi156_4⟩ := at_T24 HR0.out x5_1 p156 q156
                have hw156_4 := hx156_4
                have hw156_3 := hx156_3
                have hw156_2 := hx156_2
                have hw156_1 := hx156_1
                have hw156_0 := hx156_0
                cases e156
                replace hx156_0 := (HB.out.cell (World.block_lt_of_cell? w _ hx156_0)).trans hx156_0
                replace hx156_1 := (HB.out.cell (World.block_lt_of_cell? w _ hx156_1)).trans hx156_1
                replace hx156_2 := (HB.out.cell (World.block_lt_of_cell? w _ hx156_2)).trans hx156_2
                replace hx156_3 := (HB.out.cell (World.block_lt_of_cell? w _ hx156_3)).trans hx156_3
                replace hx156_4 := (HB.out.cell (World.block_lt_of_cell? w _ hx156_4)).trans hx156_4
                have HR156_4 := Aside0.mk hi156_4
                have HC156_4 := Aside0.mk hl156_4
                clear hi156_4 hl156_4
                replace p156 := eq_true p156
                replace q156 := eq_true q156
                have p157 : 0 ≤ (x5_1 : Int) := of_decide_eq_true (by first | (with_reducible assumption) | assumption)
                have q157 : x5_1 < (l1.length : Int) := of_decide_eq_true (by first | (with_reducible assumption) | assumption)
                obtain ⟨ad157, A157_4, c157_4, e157, hx157_0, hx157_1, hx157_2, hx157_3, hx157_4, hl157_4, hi157_4⟩ := at_T24 HR1.out x5_1 p157 q157
                have hw157_4 := hx157_4
                have hw157_3 := hx157_3
                have hw157_2 := hx157_2
                have hw157_1 := hx157_1
                have hw157_0 := hx157_0
                cases e157
                replace hx157_0 := (HB.out.cell (World.block_lt_of_cell? w _ hx157_0)).trans hx157_0
                replace hx157_1 := (HB.out.cell (World.block_lt_of_cell? w _ hx157_1)).trans hx157_1
                replace hx157_2 := (HB.out.cell (World.block_lt_of_cell? w _ hx157_2)).trans hx157_2
                replace hx157_3 := (HB.out.cell (World.block_lt_of_cell? w _ hx157_3)).trans hx157_3
                replace hx157_4 := (HB.out.cell (World.block_lt_of_cell? w _ hx157_4)).trans hx157_4
                have HR157_4 := Aside0.mk hi157_4
                have HC157_4 := Aside0.mk hl157_4
                clear hi157_4 hl157_4
                replace p157 := eq_true p157
                replace q157 := eq_true q157
                refine start_ (n := 10) (S := fun w' => w'.cell? (ad156.add ((x5_1).toNat * 5)) = some (.int .i64 ((rd_T24 l0 x5_1).f0)) ∧ w'.cell? ⟨(ad156.add ((x5_1).toNat * 5)).block, (ad156.add ((x5_1).toNat * 5)).off + 1, none⟩ = some (.int .i64 ((rd_T24 l0 x5_1).f1)) ∧ w'.cell? ⟨(ad156.add ((x5_1).toNat * 5)).block, (ad156.add ((x5_1).toNat * 5)).off + 2, none⟩ = some (.bool ((rd_T24 l0 x5_1).f2)) ∧ w'.cell? ⟨(ad156.add ((x5_1).toNat * 5)).block, (ad156.add ((x5_1).toNat * 5)).off + 3, none⟩ = some (.int .i64 ((rd_T24 l0 x5_1).f3)) ∧ w'.cell? ⟨(ad156.add ((x5_1).toNat * 5)).block, (ad156.add ((x5_1).toNat * 5)).off + 4, none⟩ = some (.slice A156_4 ((rd_T24 l0 x5_1).f4).length c156_4) ∧ w'.cell? (ad157.add ((x5_1).toNat * 5)) = some (.int .i64 ((rd_T24 l1 x5_1).f0)) ∧ w'.cell? ⟨(ad157.add ((x5_1).toNat * 5)).block, (ad157.add ((x5_1).toNat * 5)).off + 1, none⟩ = some (.int .i64 ((rd_T24 l1 x5_1).f1)) ∧ w'.cell? ⟨(ad157.add ((x5_1).toNat * 5)).block, (ad157.add ((x5_1).toNat * 5)).off + 2, none⟩ = some (.bool ((rd_T24 l1 x5_1).f2)) ∧ w'.cell? ⟨(ad157.add ((x5_1).toNat * 5)).block, (ad157.add ((x5_1).toNat * 5)).off + 3, none⟩ = some (.int .i64 ((rd_T24 l1 x5_1).f3)) ∧ w'.cell? ⟨(ad157.add ((x5_1).toNat * 5)).block, (ad157.add ((x5_1).toNat * 5)).off + 4, none⟩ = some (.slice A157_4 ((rd_T24 l1 x5_1).f4).length c157_4)) (ds := []) #[false, false, false, false, false, false, false, false, false, false] (by kernel_rfl) rfl rfl ⟨((HB.out.cell (World.block_lt_of_cell? w _ hw156_0)).trans hw156_0), ((HB.out.cell (World.block_lt_of_cell? w _ hw156_1)).trans hw156_1), ((HB.out.cell (World.block_lt_of_cell? w _ hw156_2)).trans hw156_2), ((HB.out.cell (World.block_lt_of_cell? w _ hw156_3)).trans hw156_3), ((HB.out.cell (World.block_lt_of_cell? w _ hw156_4)).trans hw156_4), ((HB.out.cell (World.block_lt_of_cell? w _ hw157_0)).trans hw157_0), ((HB.out.cell (World.block_lt_of_cell? w _ hw157_1)).trans hw157_1), ((HB.out.cell (World.block_lt_of_cell? w _ hw157_2)).trans hw157_2), ((HB.out.cell (World.block_lt_of_cell? w _ hw157_3)).trans hw157_3), ((HB.out.cell (World.block_lt_of_cell? w _ hw157_4)).trans hw157_4)⟩ (fun hHeld => ?_); refine with_tabW counterpaneref20_SameList.tab6 counterpaneref20_SameList.bits6 (fun HT_ HW_ => ?_)
                generalize wr.drew = w9 at HB HR156_4 HR157_4 hx156_0 hx156_1 hx156_2 hx156_3 hx156_4 hx157_0 hx157_1 hx157_2 hx157_3 hx157_4 hHeld ⊢
                refine pure_ (i := 0) (N := some 17) (v := ?_) (a' := ?_) #[true, false, false, false, false, false, false, false, false, false] rfl rfl (any_of HT_.out (by kernel_rfl)) (fun _ _ _ h => h) (Or.inl ⟨by rfl, ?_⟩) ?_ ?_
                rotate_left
                · intro w'
                  go_simp
                  with_reducible rfl
                rotate_left
                · simp only [Act.put, List.setIfInBounds_toArray, List.set_cons_zero, List.set_cons_succ, i64_w, i32_w]
                  rfl
                refine pure_ (i := 1) (N := some 18) (v := ?_) (a' := ?_) #[true, true, false, false, false, false, false, false, false, false] rfl rfl (any_of HT_.out (by kernel_rfl)) (fun _ _ _ h => h) (Or.inl ⟨by rfl, ?_⟩) ?_ ?_
                rotate_left
                · intro w'
                  go_simp
                  with_reducible rfl
                rotate_left
                · simp only [Act.put, List.setIfInBounds_toArray, List.set_cons_zero, List.set_cons_succ, i64_w, i32_w]
                  rfl
                refine pure_ (i := 2) (N := some 19) (v := ?_) (a' := ?_) #[true, true, true, false, false, false, false, false, false, false] rfl rfl (any_of HT_.out (by kernel_rfl)) (fun _ _ _ h => h) (Or.inl ⟨by rfl, ?_⟩) ?_ ?_
                rotate_left
                · intro w'
                  go_simp
                  with_reducible rfl
                rotate_left
                · simp only [Act.put, List.setIfInBounds_toArray, List.set_cons_zero, List.set_cons_succ, i64_w, i32_w]
                  rfl
                refine pure_ (i := 4) (N := some 21) (v := ?_) (a' := ?_) #[true, true, true, false, true, false, false, false, false, false] rfl rfl (any_of HT_.out (by kernel_rfl)) (fun _ _ _ h => h) (Or.inl ⟨by rfl, ?_⟩) ?_ ?_
                rotate_left
                · intro w'
                  go_simp
                  with_reducible rfl
                rotate_left
                · simp only [Act.put, List.setIfInBounds_toArray, List.set_cons_zero, List.set_cons_succ, i64_w, i32_w]
                  rfl
                refine pure_ (i := 5) (N := some 22) (v := ?_) (a' := ?_) #[true, true, true, false, true, true, false, false, false, false] rfl rfl (any_of HT_.out (by kernel_rfl)) (fun _ _ _ h => h) (Or.inl ⟨by rfl, ?_⟩) ?_ ?_
                rotate_left
                · intro w'
                  go_simp
                  with_reducible rfl
                rotate_left
                · simp only [Act.put, List.setIfInBounds_toArray, List.set_cons_zero, List.set_cons_succ, i64_w, i32_w]
                  rfl
                refine pure_ (i := 6) (N := some 23) (v := ?_) (a' := ?_) #[true, true, true, false, true, true, true, false, false, false] rfl rfl (any_of HT_.out (by kernel_rfl)) (fun _ _ _ h => h) (Or.inl ⟨by rfl, ?_⟩) ?_ ?_
                rotate_left
                · intro w'
                  go_simp
                  with_reducible rfl
                rotate_left
                · simp only [Act.put, List.setIfInBounds_toArray, List.set_cons_zero, List.set_cons_succ, i64_w, i32_w]
                  rfl
                refine take_ (i := 3) (N := some 20) (v := ?_) (a' := ?_) #[true, true, true, true, true, true, true, false, false, false] rfl rfl (take_ofW HT_.out HW_.out (by kernel_rfl)) (fun _ _ _ h => h) (Or.inl ⟨by rfl, ?_⟩) hHeld ?_ ?_
                rotate_left
                · rintro w' ⟨s0, s1, s2, s3, s4, s5, s6, s7, s8, s9⟩
                  go_simp
                  with_reducible rfl
                rotate_left
                · simp only [Act.put, List.setIfInBounds_toArray, List.set_cons_zero, List.set_cons_succ, i64_w, i32_w]
                  rfl
                refine take_ (i := 7) (N := some 24) (v := ?_) (a' := ?_) #[true, true, true, true, true, true, true, true, false, false] rfl rfl (take_ofW HT_.out HW_.out (by kernel_rfl)) (fun _ _ _ h => h) (Or.inl ⟨by rfl, ?_⟩) hHeld ?_ ?_
                rotate_left
                · rintro w' ⟨s0, s1, s2, s3, s4, s5, s6, s7, s8, s9⟩
                  go_simp
                  with_reducible rfl
                rotate_left
                · simp only [Act.put, List.setIfInBounds_toArray, List.set_cons_zero, List.set_cons_succ, i64_w, i32_w]
                  rfl
                refine one_ (i := 8) (N := some 25) #[true, true, true, true, true, true, true, true, true, false] rfl rfl (one_of HT_.out (by kernel_rfl)) (by decide) (fun K hK => ?_)
                refine goes_ Tryd.func16 (by kernel_rfl) rfl #[.agg #[.int .i64 ((rd_T24 l0 x5_1).f0), .int .i64 ((rd_T24 l0 x5_1).f1), .bool ((rd_T24 l0 x5_1).f2), .int .i64 ((rd_T24 l0 x5_1).f3), .slice A156_4 ((rd_T24 l0 x5_1).f4).length c156_4], .agg #[.int .i64 ((rd_T24 l1 x5_1).f0), .int .i64 ((rd_T24 l1 x5_1).f1), .bool ((rd_T24 l1 x5_1).f2), .int .i64 ((rd_T24 l1 x5_1).f3), .slice A157_4 ((rd_T24 l1 x5_1).f4).length c157_4]] (by rfl) rfl rfl (by (try simp only [List.map_toArray, List.map_cons, List.map_nil]); first | done | rfl | (simp only [List.length_drop, List.length_take]; rfl)) ?_
                with_reducible refine (counterpaneref20_Same.calls ((rd_T24 l0 x5_1).f0) ((rd_T24 l0 x5_1).f1) ((rd_T24 l0 x5_1).f2) ((rd_T24 l0 x5_1).f3) _ _ ((rd_T24 l0 x5_1).f4) ((rd_T24 l1 x5_1).f0) ((rd_T24 l1 x5_1).f1) ((rd_T24 l1 x5_1).f2) ((rd_T24 l1 x5_1).f3) _ _ ((rd_T24 l1 x5_1).f4) true _ ?side1 ?side2 ?side3 ?side4 A7.out).mono ?_
                (case side1 => repeat (first | exact (Kd.C_below HR156_4.out HB.out) | (with_reducible refine Kd.C_alloc ?_ _) | (with_reducible refine Kd.C_drewN ?_ _) | (with_reducible refine Kd.C_drew ?_)))
                (case side2 => exact HC156_4.out)
                (case side3 => repeat (first | exact (Kd.C_below HR157_4.out HB.out) | (with_reducible refine Kd.C_alloc ?_ _) | (with_reducible refine Kd.C_drewN ?_ _) | (with_reducible refine Kd.C_drew ?_)))
                (case side4 => exact HC157_4.out)
                rintro e w10 ⟨rfl, hb⟩
                refine ⟨_, rfl, ?_⟩
                have n0_ := Aside0.mk (below_step (by repeat (first | (with_reducible first | exact HB.out | apply below_alloc | apply pw_below_drewN | apply below_drew1) | exact HB.out)) hb)
                clear HB
                have HB := n0_
                clear n0_
                (try clear hb)
                (try clear hb2)
                (try clear hk)
                (try clear hi)
                refine hK.out _ _ ⟨((HB.out.cell (World.block_lt_of_cell? w _ hw156_0)).trans hw156_0), ((HB.out.cell (World.block_lt_of_cell? w _ hw156_1)).trans hw156_1), ((HB.out.cell (World.block_lt_of_cell? w _ hw156_2)).trans hw156_2), ((HB.out.cell (World.block_lt_of_cell? w _ hw156_3)).trans hw156_3), ((HB.out.cell (World.block_lt_of_cell? w _ hw156_4)).trans hw156_4), ((HB.out.cell (World.block_lt_of_cell? w _ hw157_0)).trans hw157_0), ((HB.out.cell (World.block_lt_of_cell? w _ hw157_1)).trans hw157_1), ((HB.out.cell (World.block_lt_of_cell? w _ hw157_2)).trans hw157_2), ((HB.out.cell (World.block_lt_of_cell? w _ hw157_3)).trans hw157_3), ((HB.out.cell (World.block_lt_of_cell? w _ hw157_4)).trans hw157_4)⟩ (fun hHeld => ?_)
                clear hK K
                refine norm_ (a' := ?_) ?_ ?_
                rotate_left
                · show Act.put _ (some 25) _ = _
                  simp only [Act.put, List.setIfInBounds_toArray, List.set_cons_zero, List.set_cons_succ, i64_w, i32_w]
                  rfl
                refine pure_ (i := 9) (N := some 26) (v := ?_) (a' := ?_) #[true, true, true, true, true, true, true, true, true, true] rfl rfl (any_of HT_.out (by kernel_rfl)) (fun _ _ _ h => h) (Or.inl ⟨by rfl, ?_⟩) ?_ ?_
                rotate_left
                · intro w'
                  go_simp
                  with_reducible rfl
                rotate_left
                · simp only [Act.put, List.setIfInBounds_toArray, List.set_cons_zero, List.set_cons_succ, i64_w, i32_w]
                  rfl
                refine done_ (done_of HT_.out (by kernel_rfl)) ?_
                try go_wp2
                go_roundg k1
                case measure => have := HK1.out; omega
                case rel => exact ⟨(wrap64 (x5_1 + 1)), (by first | rfl | (simp; done) | (simp [*]; done)), H', ⟨by have := HK1.out; omega⟩, ⟨by repeat (first | (with_reducible first | exact HB.out | apply below_alloc | apply pw_below_drewN | apply below_drew1) | exact HB.out)⟩⟩
              · replace c8 := Bool.eq_false_iff.mpr c8
                subst c8
                have H1 : (some false) = some r := by rw [if_neg (show ¬ (false = true) by decide)] at H; exact H
                clear H
                have H := H1
                clear H1
                obtain rfl := Option.some.inj H
                try go_wp2
                have n0_ := Aside0.mk (below_drew1 HB.out)
                clear HB
                have HB := n0_
                clear n0_
                have p156 : 0 ≤ (x5_1 : Int) := of_decide_eq_true (by first | (with_reducible assumption) | assumption)
                have q156 : x5_1 < (l0.length : Int) := of_decide_eq_true (by first | (with_reducible assumption) | assumption)
                obtain ⟨ad156, A156_4, c156_4, e156, hx156_0, hx156_1, hx156_2, hx156_3, hx156_4, hl156_4, hi156_4⟩ := at_T24 HR0.out x5_1 p156 q156
                have hw156_4 := hx156_4
                have hw156_3 := hx156_3
                have hw156_2 := hx156_2
                have hw156_1 := hx156_1
                have hw156_0 := hx156_0
                cases e156
                replace hx156_0 := (HB.out.cell (World.block_lt_of_cell? w _ hx156_0)).trans hx156_0
                replace hx156_1 := (HB.out.cell (World.block_lt_of_cell? w _ hx156_1)).trans hx156_1
                replace hx156_2 := (HB.out.cell (World.block_lt_of_cell? w _ hx156_2)).trans hx156_2
                replace hx156_3 := (HB.out.cell (World.block_lt_of_cell? w _ hx156_3)).trans hx156_3
                replace hx156_4 := (HB.out.cell (World.block_lt_of_cell? w _ hx156_4)).trans hx156_4
                have HR156_4 := Aside0.mk hi156_4
                have HC156_4 := Aside0.mk hl156_4
                clear hi156_4 hl156_4
                replace p156 := eq_true p156
                replace q156 := eq_true q156
                have p157 : 0 ≤ (x5_1 : Int) := of_decide_eq_true (by first | (with_reducible assumption) | assumption)
                have q157 : x5_1 < (l1.length : Int) := of_decide_eq_true (by first | (with_reducible assumption) | assumption)
                obtain ⟨ad157, A157_4, c157_4, e157, hx157_0, hx157_1, hx157_2, hx157_3, hx157_4, hl157_4, hi157_4⟩ := at_T24 HR1.out x5_1 p157 q157
                have hw157_4 := hx157_4
                have hw157_3 := hx157_3
                have hw157_2 := hx157_2
                have hw157_1 := hx157_1
                have hw157_0 := hx157_0
                cases e157
                replace hx157_0 := (HB.out.cell (World.block_lt_of_cell? w _ hx157_0)).trans hx157_0
                replace hx157_1 := (HB.out.cell (World.block_lt_of_cell? w _ hx157_1)).trans hx157_1
                replace hx157_2 := (HB.out.cell (World.block_lt_of_cell? w _ hx157_2)).trans hx157_2
                replace hx157_3 := (HB.out.cell (World.block_lt_of_cell? w _ hx157_3)).trans hx157_3
                replace hx157_4 := (HB.out.cell (World.block_lt_of_cell? w _ hx157_4)).trans hx157_4
                have HR157_4 := Aside0.mk hi157_4
                have HC157_4 := Aside0.mk hl157_4
                clear hi157_4 hl157_4
                replace p157 := eq_true p157
                replace q157 := eq_true q157
                refine start_ (n := 10) (S := fun w' => w'.cell? (ad156.add ((x5_1).toNat * 5)) = some (.int .i64 ((rd_T24 l0 x5_1).f0)) ∧ w'.cell? ⟨(ad156.add ((x5_1).toNat * 5)).block, (ad156.add ((x5_1).toNat * 5)).off + 1, none⟩ = some (.int .i64 ((rd_T24 l0 x5_1).f1)) ∧ w'.cell? ⟨(ad156.add ((x5_1).toNat * 5)).block, (ad156.add ((x5_1).toNat * 5)).off + 2, none⟩ = some (.bool ((rd_T24 l0 x5_1).f2)) ∧ w'.cell? ⟨(ad156.add ((x5_1).toNat * 5)).block, (ad156.add ((x5_1).toNat * 5)).off + 3, none⟩ = some (.int .i64 ((rd_T24 l0 x5_1).f3)) ∧ w'.cell? ⟨(ad156.add ((x5_1).toNat * 5)).block, (ad156.add ((x5_1).toNat * 5)).off + 4, none⟩ = some (.slice A156_4 ((rd_T24 l0 x5_1).f4).length c156_4) ∧ w'.cell? (ad157.add ((x5_1).toNat * 5)) = some (.int .i64 ((rd_T24 l1 x5_1).f0)) ∧ w'.cell? ⟨(ad157.add ((x5_1).toNat * 5)).block, (ad157.add ((x5_1).toNat * 5)).off + 1, none⟩ = some (.int .i64 ((rd_T24 l1 x5_1).f1)) ∧ w'.cell? ⟨(ad157.add ((x5_1).toNat * 5)).block, (ad157.add ((x5_1).toNat * 5)).off + 2, none⟩ = some (.bool ((rd_T24 l1 x5_1).f2)) ∧ w'.cell? ⟨(ad157.add ((x5_1).toNat * 5)).block, (ad157.add ((x5_1).toNat * 5)).off + 3, none⟩ = some (.int .i64 ((rd_T24 l1 x5_1).f3)) ∧ w'.cell? ⟨(ad157.add ((x5_1).toNat * 5)).block, (ad157.add ((x5_1).toNat * 5)).off + 4, none⟩ = some (.slice A157_4 ((rd_T24 l1 x5_1).f4).length c157_4)) (ds := []) #[false, false, false, false, false, false, false, false, false, false] (by kernel_rfl) rfl rfl ⟨((HB.out.cell (World.block_lt_of_cell? w _ hw156_0)).trans hw156_0), ((HB.out.cell (World.block_lt_of_cell? w _ hw156_1)).trans hw156_1), ((HB.out.cell (World.block_lt_of_cell? w _ hw156_2)).trans hw156_2), ((HB.out.cell (World.block_lt_of_cell? w _ hw156_3)).trans hw156_3), ((HB.out.cell (World.block_lt_of_cell? w _ hw156_4)).trans hw156_4), ((HB.out.cell (World.block_lt_of_cell? w _ hw157_0)).trans hw157_0), ((HB.out.cell (World.block_lt_of_cell? w _ hw157_1)).trans hw157_1), ((HB.out.cell (World.block_lt_of_cell? w _ hw157_2)).trans hw157_2), ((HB.out.cell (World.block_lt_of_cell? w _ hw157_3)).trans hw157_3), ((HB.out.cell (World.block_lt_of_cell? w _ hw157_4)).trans hw157_4)⟩ (fun hHeld => ?_); refine with_tabW counterpaneref20_SameList.tab6 counterpaneref20_SameList.bits6 (fun HT_ HW_ => ?_)
                generalize wr.drew = w11 at HB HR156_4 HR157_4 hx156_0 hx156_1 hx156_2 hx156_3 hx156_4 hx157_0 hx157_1 hx157_2 hx157_3 hx157_4 hHeld ⊢
                refine pure_ (i := 0) (N := some 17) (v := ?_) (a' := ?_) #[true, false, false, false, false, false, false, false, false, false] rfl rfl (any_of HT_.out (by kernel_rfl)) (fun _ _ _ h => h) (Or.inl ⟨by rfl, ?_⟩) ?_ ?_
                rotate_left
                · intro w'
                  go_simp
                  with_reducible rfl
                rotate_left
                · simp only [Act.put, List.setIfInBounds_toArray, List.set_cons_zero, List.set_cons_succ, i64_w, i32_w]
                  rfl
                refine pure_ (i := 1) (N := some 18) (v := ?_) (a' := ?_) #[true, true, false, false, false, false, false, false, false, false] rfl rfl (any_of HT_.out (by kernel_rfl)) (fun _ _ _ h => h) (Or.inl ⟨by rfl, ?_⟩) ?_ ?_
                rotate_left
                · intro w'
                  go_simp
                  with_reducible rfl
                rotate_left
                · simp only [Act.put, List.setIfInBounds_toArray, List.set_cons_zero, List.set_cons_succ, i64_w, i32_w]
                  rfl
                refine pure_ (i := 2) (N := some 19) (v := ?_) (a' := ?_) #[true, true, true, false, false, false, false, false, false, false] rfl rfl (any_of HT_.out (by kernel_rfl)) (fun _ _ _ h => h) (Or.inl ⟨by rfl, ?_⟩) ?_ ?_
                rotate_left
                · intro w'
                  go_simp
                  with_reducible rfl
                rotate_left
                · simp only [Act.put, List.setIfInBounds_toArray, List.set_cons_zero, List.set_cons_succ, i64_w, i32_w]
                  rfl
                refine pure_ (i := 4) (N := some 21) (v := ?_) (a' := ?_) #[true, true, true, false, true, false, false, false, false, false] rfl rfl (any_of HT_.out (by kernel_rfl)) (fun _ _ _ h => h) (Or.inl ⟨by rfl, ?_⟩) ?_ ?_
                rotate_left
                · intro w'
                  go_simp
                  with_reducible rfl
                rotate_left
                · simp only [Act.put, List.setIfInBounds_toArray, List.set_cons_zero, List.set_cons_succ, i64_w, i32_w]
                  rfl
                refine pure_ (i := 5) (N := some 22) (v := ?_) (a' := ?_) #[true, true, true, false, true, true, false, false, false, false] rfl rfl (any_of HT_.out (by kernel_rfl)) (fun _ _ _ h => h) (Or.inl ⟨by rfl, ?_⟩) ?_ ?_
                rotate_left
                · intro w'
                  go_simp
                  with_reducible rfl
                rotate_left
                · simp only [Act.put, List.setIfInBounds_toArray, List.set_cons_zero, List.set_cons_succ, i64_w, i32_w]
                  rfl
                refine pure_ (i := 6) (N := some 23) (v := ?_) (a' := ?_) #[true, true, true, false, true, true, true, false, false, false] rfl rfl (any_of HT_.out (by kernel_rfl)) (fun _ _ _ h => h) (Or.inl ⟨by rfl, ?_⟩) ?_ ?_
                rotate_left
                · intro w'
                  go_simp
                  with_reducible rfl
                rotate_left
                · simp only [Act.put, List.setIfInBounds_toArray, List.set_cons_zero, List.set_cons_succ, i64_w, i32_w]
                  rfl
                refine take_ (i := 3) (N := some 20) (v := ?_) (a' := ?_) #[true, true, true, true, true, true, true, false, false, false] rfl rfl (take_ofW HT_.out HW_.out (by kernel_rfl)) (fun _ _ _ h => h) (Or.inl ⟨by rfl, ?_⟩) hHeld ?_ ?_
                rotate_left
                · rintro w' ⟨s0, s1, s2, s3, s4, s5, s6, s7, s8, s9⟩
                  go_simp
                  with_reducible rfl
                rotate_left
                · simp only [Act.put, List.setIfInBounds_toArray, List.set_cons_zero, List.set_cons_succ, i64_w, i32_w]
                  rfl
                refine take_ (i := 7) (N := some 24) (v := ?_) (a' := ?_) #[true, true, true, true, true, true, true, true, false, false] rfl rfl (take_ofW HT_.out HW_.out (by kernel_rfl)) (fun _ _ _ h => h) (Or.inl ⟨by rfl, ?_⟩) hHeld ?_ ?_
                rotate_left
                · rintro w' ⟨s0, s1, s2, s3, s4, s5, s6, s7, s8, s9⟩
                  go_simp
                  with_reducible rfl
                rotate_left
                · simp only [Act.put, List.setIfInBounds_toArray, List.set_cons_zero, List.set_cons_succ, i64_w, i32_w]
                  rfl
                refine one_ (i := 8) (N := some 25) #[true, true, true, true, true, true, true, true, true, false] rfl rfl (one_of HT_.out (by kernel_rfl)) (by decide) (fun K hK => ?_)
                refine goes_ Tryd.func16 (by kernel_rfl) rfl #[.agg #[.int .i64 ((rd_T24 l0 x5_1).f0), .int .i64 ((rd_T24 l0 x5_1).f1), .bool ((rd_T24 l0 x5_1).f2), .int .i64 ((rd_T24 l0 x5_1).f3), .slice A156_4 ((rd_T24 l0 x5_1).f4).length c156_4], .agg #[.int .i64 ((rd_T24 l1 x5_1).f0), .int .i64 ((rd_T24 l1 x5_1).f1), .bool ((rd_T24 l1 x5_1).f2), .int .i64 ((rd_T24 l1 x5_1).f3), .slice A157_4 ((rd_T24 l1 x5_1).f4).length c157_4]] (by rfl) rfl rfl (by (try simp only [List.map_toArray, List.map_cons, List.map_nil]); first | done | rfl | (simp only [List.length_drop, List.length_take]; rfl)) ?_
                with_reducible refine (counterpaneref20_Same.calls ((rd_T24 l0 x5_1).f0) ((rd_T24 l0 x5_1).f1) ((rd_T24 l0 x5_1).f2) ((rd_T24 l0 x5_1).f3) _ _ ((rd_T24 l0 x5_1).f4) ((rd_T24 l1 x5_1).f0) ((rd_T24 l1 x5_1).f1) ((rd_T24 l1 x5_1).f2) ((rd_T24 l1 x5_1).f3) _ _ ((rd_T24 l1 x5_1).f4) false _ ?side1 ?side2 ?side3 ?side4 A7.out).mono ?_
                (case side1 => repeat (first | exact (Kd.C_below HR156_4.out HB.out) | (with_reducible refine Kd.C_alloc ?_ _) | (with_reducible refine Kd.C_drewN ?_ _) | (with_reducible refine Kd.C_drew ?_)))
                (case side2 => exact HC156_4.out)
                (case side3 => repeat (first | exact (Kd.C_below HR157_4.out HB.out) | (with_reducible refine Kd.C_alloc ?_ _) | (with_reducible refine Kd.C_drewN ?_ _) | (with_reducible refine Kd.C_drew ?_)))
                (case side4 => exact HC157_4.out)
                rintro e w12 ⟨rfl, hb⟩
                refine ⟨_, rfl, ?_⟩
                have n0_ := Aside0.mk (below_step (by repeat (first | (with_reducible first | exact HB.out | apply below_alloc | apply pw_below_drewN | apply below_drew1) | exact HB.out)) hb)
                clear HB
                have HB := n0_
                clear n0_
                (try clear hb)
                (try clear hb2)
                (try clear hk)
                (try clear hi)
                refine hK.out _ _ ⟨((HB.out.cell (World.block_lt_of_cell? w _ hw156_0)).trans hw156_0), ((HB.out.cell (World.block_lt_of_cell? w _ hw156_1)).trans hw156_1), ((HB.out.cell (World.block_lt_of_cell? w _ hw156_2)).trans hw156_2), ((HB.out.cell (World.block_lt_of_cell? w _ hw156_3)).trans hw156_3), ((HB.out.cell (World.block_lt_of_cell? w _ hw156_4)).trans hw156_4), ((HB.out.cell (World.block_lt_of_cell? w _ hw157_0)).trans hw157_0), ((HB.out.cell (World.block_lt_of_cell? w _ hw157_1)).trans hw157_1), ((HB.out.cell (World.block_lt_of_cell? w _ hw157_2)).trans hw157_2), ((HB.out.cell (World.block_lt_of_cell? w _ hw157_3)).trans hw157_3), ((HB.out.cell (World.block_lt_of_cell? w _ hw157_4)).trans hw157_4)⟩ (fun hHeld => ?_)
                clear hK K
                refine norm_ (a' := ?_) ?_ ?_
                rotate_left
                · show Act.put _ (some 25) _ = _
                  simp only [Act.put, List.setIfInBounds_toArray, List.set_cons_zero, List.set_cons_succ, i64_w, i32_w]
                  rfl
                refine pure_ (i := 9) (N := some 26) (v := ?_) (a' := ?_) #[true, true, true, true, true, true, true, true, true, true] rfl rfl (any_of HT_.out (by kernel_rfl)) (fun _ _ _ h => h) (Or.inl ⟨by rfl, ?_⟩) ?_ ?_
                rotate_left
                · intro w'
                  go_simp
                  with_reducible rfl
                rotate_left
                · simp only [Act.put, List.setIfInBounds_toArray, List.set_cons_zero, List.set_cons_succ, i64_w, i32_w]
                  rfl
                refine done_ (done_of HT_.out (by kernel_rfl)) ?_
                try go_wp2
                go_ret
                exact ⟨by first | rfl | (simp [errW_none, errW_some] <;> rfl) | (simp [*, errW_none, errW_some] <;> rfl), by repeat (first | (with_reducible first | exact HB.out | apply below_alloc | apply pw_below_drewN | apply below_drew1) | exact HB.out)⟩
            · rw [if_neg c6] at H
              exact absurd H (by simp)
          · rw [if_neg c5] at H
            exact absurd H (by simp)
        · rw [if_neg c4] at H
          have c4b0 : decide (x5_1 < (l0.length : Int)) = false := decide_eq_false c4
          clear c4
          obtain rfl := Option.some.inj H
          go_wp2
          go_ret
          exact ⟨by first | rfl | (simp [errW_none, errW_some] <;> rfl) | (simp [*, errW_none, errW_some] <;> rfl), by repeat (first | (with_reducible first | exact HB.out | apply below_alloc | apply pw_below_drewN | apply below_drew1) | exact HB.out)⟩
  · rw [if_neg c3] at H
    have c3b0 : ((l0.length : Int) == (l1.length : Int)) = false := beq_eq_false_iff_ne.mpr c3
    have c3b1 : ((l0.length : Int) != (l1.length : Int)) = true := bne_iff_ne.mpr c3
    have c3b2 : (l0.length == l1.length) = false := by first | simpa using c3 | (simp at c3 ⊢; omega)
    obtain rfl := Option.some.inj H
    go_enter Tryd.func21, Tryd.ntmps21
    go_wp2
    go_ret
    exact ⟨by first | rfl | (simp [errW_none, errW_some] <;> rfl) | (simp [*, errW_none, errW_some] <;> rfl), by repeat (first | (with_reducible first | exact HB.out | apply below_alloc | apply pw_below_drewN | apply below_drew1) | exact HB.out)⟩

-- NOT PRINTED: function 23 (counterpaneref20_End_Tick)

/-! ### counterpaneref20_Right: function 42 -/
def counterpaneref20_Right.f (a0_0 : Int) (a0_1 : Int) (a0_2 : Bool) (a0_3 : Int) (l0_4 : List Int) : Option (Bool) := if a0_0 < 0 then (some false) else (if a0_0 > 1099511627776 then (some false) else (if a0_1 < 0 then (some false) else (if a0_1 > 1073741824 then (some false) else (if a0_3 < 0 then (some false) else (if a0_3 > 1073741824 then (some false) else (if (l0_4.length : Int) > 32768 then (some false) else (if a0_2 = true then (some true) else (if a0_3 = 0 then (some ((l0_4.length : Int) == 0)) else (some false)))))))))
set_option maxHeartbeats 8000000 in
set_option maxRecDepth 100000 in
theorem counterpaneref20_Right.calls (a0_0 : Int) (a0_1 : Int) (a0_2 : Bool) (a0_3 : Int) (A0_4 : Option Addr) (c0_4 : Nat) (l0_4 : List Int) (r : Bool) (w : World) (hr0_4 : Kd.C (Kd.int .u8) w A0_4 l0_4.length l0_4) (hc0_4 : l0_4.length ≤ c0_4) (h : counterpaneref20_Right.f a0_0 a0_1 a0_2 a0_3 l0_4 = some r) :
    Calls Tryd.prog 42 #[.agg #[.int .i64 a0_0, .int .i64 a0_1, .bool a0_2, .int .i64 a0_3, .slice A0_4 l0_4.length c0_4]] w fun e w' => e = .returned (.bool r) ∧ Below w.heap.size w w' := by
  have hu24 := Tryd.underlying24
  have HR0_4 := Aside0.mk hr0_4
  have HC0_4 := Aside0.mk hc0_4
  clear hr0_4 hc0_4
  have HB := Aside0.mk (Below.refl w.heap.size w)
  have H : (if a0_0 < 0 then (some false) else (if a0_0 > 1099511627776 then (some false) else (if a0_1 < 0 then (some false) else (if a0_1 > 1073741824 then (some false) else (if a0_3 < 0 then (some false) else (if a0_3 > 1073741824 then (some false) else (if (l0_4.length : Int) > 32768 then (some false) else (if a0_2 = true then (some true) else (if a0_3 = 0 then (some ((l0_4.length : Int) == 0)) else (some false)))))))))) = some r := h
  clear h
  by_cases c2 : a0_0 < 0
  · rw [if_pos c2] at H
    have c2b0 : decide (a0_0 < 0) = true := decide_eq_true c2
    clear c2
    obtain rfl := Option.some.inj H
    go_enter Tryd.func42, Tryd.ntmps42
    go_wp2_with (first | ((with_reducible refine gate_dst (N := 1) rfl ?_); (try (refine gate_guard (by rfl) ?_; dsimp only)); refine box_event ?hg (N := 1) ?hd (cs := #[.int .i64 a0_0, .int .i64 a0_1, .bool a0_2, .int .i64 a0_3, .slice A0_4 l0_4.length c0_4]) (t := 24) ?hr ?_; (case hd => rfl); (case hg => rfl); (case hr => first | (go_simp; done) | (go_simp; rfl)); intro gb175 hg w3 hbox hb; have n0_ := Aside0.mk (below_step (by repeat (first | (with_reducible first | exact HB.out | apply below_alloc | apply pw_below_drewN | apply below_drew1) | exact HB.out)) hb); have n1_ := Aside0.mk (hbox); have n2_ := Aside0.mk ((by rw [hg]; exact (below_size (by repeat (first | (with_reducible first | exact HB.out | apply below_alloc | apply pw_below_drewN | apply below_drew1) | exact HB.out))) : w.heap.size ≤ gb175)); have n3_ := Aside0.mk ((by rw [hg]; exact (below_size (by repeat (first | (with_reducible first | exact HB.out | apply below_alloc | apply pw_below_drewN | apply below_drew1) | exact HB.out))) : w.heap.size ≤ gb175)); clear HB; have HB := n0_; have BK175 := n1_; have GW175 := n2_; have GE175 := n3_; clear n0_ n1_ n2_ n3_; clear hb hbox hg; have hcz4_0 : w3.cell? ⟨gb175, 0, none⟩ = some (.int .i64 a0_0) := (blk_cell BK175.out 0).trans rfl; have hcz4_1 : w3.cell? ⟨gb175, 1, none⟩ = some (.int .i64 a0_1) := (blk_cell BK175.out 1).trans rfl; have hcz4_2 : w3.cell? ⟨gb175, 2, none⟩ = some (.bool a0_2) := (blk_cell BK175.out 2).trans rfl; have hcz4_3 : w3.cell? ⟨gb175, 3, none⟩ = some (.int .i64 a0_3) := (blk_cell BK175.out 3).trans rfl; have hcz4_4 : w3.cell? ⟨gb175, 4, none⟩ = some (.slice A0_4 l0_4.length c0_4) := (blk_cell BK175.out 4).trans rfl; have hfz4_0 := blk_frozen BK175.out 0; have hfz4_1 := blk_frozen BK175.out 1; have hfz4_2 := blk_frozen BK175.out 2; have hfz4_3 := blk_frozen BK175.out 3; have hfz4_4 := blk_frozen BK175.out 4))
    go_ret
    exact ⟨by first | rfl | (simp [errW_none, errW_some] <;> rfl) | (simp [*, errW_none, errW_some] <;> rfl), by repeat (first | (with_reducible first | exact HB.out | apply below_alloc | apply pw_below_drewN | apply below_drew1 | refine below_set ?_ GE175.out) | exact HB.out)⟩
  · rw [if_neg c2] at H
    have c2b0 : decide (a0_0 < 0) = false := decide_eq_false c2
    clear c2
    by_cases c5 : a0_0 > 1099511627776
    · rw [if_pos c5] at H
      have c5b0 : decide (1099511627776 < a0_0) = true := decide_eq_true c5
      clear c5
      obtain rfl := Option.some.inj H
      go_enter Tryd.func42, Tryd.ntmps42
      go_wp2_with (first | ((with_reducible refine gate_dst (N := 1) rfl ?_); (try (refine gate_guard (by rfl) ?_; dsimp only)); refine box_event ?hg (N := 1) ?hd (cs := #[.int .i64 a0_0, .int .i64 a0_1, .bool a0_2, .int .i64 a0_3, .slice A0_4 l0_4.length c0_4]) (t := 24) ?hr ?_; (case hd => rfl); (case hg => rfl); (case hr => first | (go_simp; done) | (go_simp; rfl)); intro gb175 hg w6 hbox hb; have n0_ := Aside0.mk (below_step (by repeat (first | (with_reducible first | exact HB.out | apply below_alloc | apply pw_below_drewN | apply below_drew1) | exact HB.out)) hb); have n1_ := Aside0.mk (hbox); have n2_ := Aside0.mk ((by rw [hg]; exact (below_size (by repeat (first | (with_reducible first | exact HB.out | apply below_alloc | apply pw_below_drewN | apply below_drew1) | exact HB.out))) : w.heap.size ≤ gb175)); have n3_ := Aside0.mk ((by rw [hg]; exact (below_size (by repeat (first | (with_reducible first | exact HB.out | apply below_alloc | apply pw_below_drewN | apply below_drew1) | exact HB.out))) : w.heap.size ≤ gb175)); clear HB; have HB := n0_; have BK175 := n1_; have GW175 := n2_; have GE175 := n3_; clear n0_ n1_ n2_ n3_; clear hb hbox hg; have hcz7_0 : w6.cell? ⟨gb175, 0, none⟩ = some (.int .i64 a0_0) := (blk_cell BK175.out 0).trans rfl; have hcz7_1 : w6.cell? ⟨gb175, 1, none⟩ = some (.int .i64 a0_1) := (blk_cell BK175.out 1).trans rfl; have hcz7_2 : w6.cell? ⟨gb175, 2, none⟩ = some (.bool a0_2) := (blk_cell BK175.out 2).trans rfl; have hcz7_3 : w6.cell? ⟨gb175, 3, none⟩ = some (.int .i64 a0_3) := (blk_cell BK175.out 3).trans rfl; have hcz7_4 : w6.cell? ⟨gb175, 4, none⟩ = some (.slice A0_4 l0_4.length c0_4) := (blk_cell BK175.out 4).trans rfl; have hfz7_0 := blk_frozen BK175.out 0; have hfz7_1 := blk_frozen BK175.out 1; have hfz7_2 := blk_frozen BK175.out 2; have hfz7_3 := blk_frozen BK175.out 3; have hfz7_4 := blk_frozen BK175.out 4))
      go_ret
      exact ⟨by first | rfl | (simp [errW_none, errW_some] <;> rfl) | (simp [*, errW_none, errW_some] <;> rfl), by repeat (first | (with_reducible first | exact HB.out | apply below_alloc | apply pw_below_drewN | apply below_drew1 | refine below_set ?_ GE175.out) | exact HB.out)⟩
    · rw [if_neg c5] at H
      have c5b0 : decide (1099511627776 < a0_0) = false := decide_eq_false c5
      clear c5
      by_cases c8 : a0_1 < 0
      · rw [if_pos c8] at H
        have c8b0 : decide (a0_1 < 0) = true := decide_eq_true c8
        clear c8
        obtain rfl := Option.some.inj H
        go_enter Tryd.func42, Tryd.ntmps42
        go_wp2_with (first | ((with_reducible refine gate_dst (N := 1) rfl ?_); (try (refine gate_guard (by rfl) ?_; dsimp only)); refine box_event ?hg (N := 1) ?hd (cs := #[.int .i64 a0_0, .int .i64 a0_1, .bool a0_2, .int .i64 a0_3, .slice A0_4 l0_4.length c0_4]) (t := 24) ?hr ?_; (case hd => rfl); (case hg => rfl); (case hr => first | (go_simp; done) | (go_simp; rfl)); intro gb175 hg w9 hbox hb; have n0_ := Aside0.mk (below_step (by repeat (first | (with_reducible first | exact HB.out | apply below_alloc | apply pw_below_drewN | apply below_drew1) | exact HB.out)) hb); have n1_ := Aside0.mk (hbox); have n2_ := Aside0.mk ((by rw [hg]; exact (below_size (by repeat (first | (with_reducible first | exact HB.out | apply below_alloc | apply pw_below_drewN | apply below_drew1) | exact HB.out))) : w.heap.size ≤ gb175)); have n3_ := Aside0.mk ((by rw [hg]; exact (below_size (by repeat (first | (with_reducible first | exact HB.out | apply below_alloc | apply pw_below_drewN | apply below_drew1) | exact HB.out))) : w.heap.size ≤ gb175)); clear HB; have HB := n0_; have BK175 := n1_; have GW175 := n2_; have GE175 := n3_; clear n0_ n1_ n2_ n3_; clear hb hbox hg; have hcz10_0 : w9.cell? ⟨gb175, 0, none⟩ = some (.int .i64 a0_0) := (blk_cell BK175.out 0).trans rfl; have hcz10_1 : w9.cell? ⟨gb175, 1, none⟩ = some (.int .i64 a0_1) := (blk_cell BK175.out 1).trans rfl; have hcz10_2 : w9.cell? ⟨gb175, 2, none⟩ = some (.bool a0_2) := (blk_cell BK175.out 2).trans rfl; have hcz10_3 : w9.cell? ⟨gb175, 3, none⟩ = some (.int .i64 a0_3) := (blk_cell BK175.out 3).trans rfl; have hcz10_4 : w9.cell? ⟨gb175, 4, none⟩ = some (.slice A0_4 l0_4.length c0_4) := (blk_cell BK175.out 4).trans rfl; have hfz10_0 := blk_frozen BK175.out 0; have hfz10_1 := blk_frozen BK175.out 1; have hfz10_2 := blk_frozen BK175.out 2; have hfz10_3 := blk_frozen BK175.out 3; have hfz10_4 := blk_frozen BK175.out 4))
        go_ret
        exact ⟨by first | rfl | (simp [errW_none, errW_some] <;> rfl) | (simp [*, errW_none, errW_some] <;> rfl), by repeat (first | (with_reducible first | exact HB.out | apply below_alloc | apply pw_below_drewN | apply below_drew1 | refine below_set ?_ GE175.out) | exact HB.out)⟩
      · rw [if_neg c8] at H
        have c8b0 : decide (a0_1 < 0) = false := decide_eq_false c8
        clear c8
        by_cases c11 : a0_1 > 1073741824
        · rw [if_pos c11] at H
          have c11b0 : decide (1073741824 < a0_1) = true := decide_eq_true c11
          clear c11
          obtain rfl := Option.some.inj H
          go_enter Tryd.func42, Tryd.ntmps42
          go_wp2_with (first | ((with_reducible refine gate_dst (N := 1) rfl ?_); (try (refine gate_guard (by rfl) ?_; dsimp only)); refine box_event ?hg (N := 1) ?hd (cs := #[.int .i64 a0_0, .int .i64 a0_1, .bool a0_2, .int .i64 a0_3, .slice A0_4 l0_4.length c0_4]) (t := 24) ?hr ?_; (case hd => rfl); (case hg => rfl); (case hr => first | (go_simp; done) | (go_simp; rfl)); intro gb175 hg w12 hbox hb; have n0_ := Aside0.mk (below_step (by repeat (first | (with_reducible first | exact HB.out | apply below_alloc | apply pw_below_drewN | apply below_drew1) | exact HB.out)) hb); have n1_ := Aside0.mk (hbox); have n2_ := Aside0.mk ((by rw [hg]; exact (below_size (by repeat (first | (with_reducible first | exact HB.out | apply below_alloc | apply pw_below_drewN | apply below_drew1) | exact HB.out))) : w.heap.size ≤ gb175)); have n3_ := Aside0.mk ((by rw [hg]; exact (below_size (by repeat (first | (with_reducible first | exact HB.out | apply below_alloc | apply pw_below_drewN | apply below_drew1) | exact HB.out))) : w.heap.size ≤ gb175)); clear HB; have HB := n0_; have BK175 := n1_; have GW175 := n2_; have GE175 := n3_; clear n0_ n1_ n2_ n3_; clear hb hbox hg; have hcz13_0 : w12.cell? ⟨gb175, 0, none⟩ = some (.int .i64 a0_0) := (blk_cell BK175.out 0).trans rfl; have hcz13_1 : w12.cell? ⟨gb175, 1, none⟩ = some (.int .i64 a0_1) := (blk_cell BK175.out 1).trans rfl; have hcz13_2 : w12.cell? ⟨gb175, 2, none⟩ = some (.bool a0_2) := (blk_cell BK175.out 2).trans rfl; have hcz13_3 : w12.cell? ⟨gb175, 3, none⟩ = some (.int .i64 a0_3) := (blk_cell BK175.out 3).trans rfl; have hcz13_4 : w12.cell? ⟨gb175, 4, none⟩ = some (.slice A0_4 l0_4.length c0_4) := (blk_cell BK175.out 4).trans rfl; have hfz13_0 := blk_frozen BK175.out 0; have hfz13_1 := blk_frozen BK175.out 1; have hfz13_2 := blk_frozen BK175.out 2; have hfz13_3 := blk_frozen BK175.out 3; have hfz13_4 := blk_frozen BK175.out 4))
          go_ret
          exact ⟨by first | rfl | (simp [errW_none, errW_some] <;> rfl) | (simp [*, errW_none, errW_some] <;> rfl), by repeat (first | (with_reducible first | exact HB.out | apply below_alloc | apply pw_below_drewN | apply below_drew1 | refine below_set ?_ GE175.out) | exact HB.out)⟩
        · rw [if_neg c11] at H
          have c11b0 : decide (1073741824 < a0_1) = false := decide_eq_false c11
          clear c11
          by_cases c14 : a0_3 < 0
          · rw [if_pos c14] at H
            have c14b0 : decide (a0_3 < 0) = true := decide_eq_true c14
            clear c14
            obtain rfl := Option.some.inj H
            go_enter Tryd.func42, Tryd.ntmps42
            go_wp2_with (first | ((with_reducible refine gate_dst (N := 1) rfl ?_); (try (refine gate_guard (by rfl) ?_; dsimp only)); refine box_event ?hg (N := 1) ?hd (cs := #[.int .i64 a0_0, .int .i64 a0_1, .bool a0_2, .int .i64 a0_3, .slice A0_4 l0_4.length c0_4]) (t := 24) ?hr ?_; (case hd => rfl); (case hg => rfl); (case hr => first | (go_simp; done) | (go_simp; rfl)); intro gb175 hg w15 hbox hb; have n0_ := Aside0.mk (below_step (by repeat (first | (with_reducible first | exact HB.out | apply below_alloc | apply pw_below_drewN | apply below_drew1) | exact HB.out)) hb); have n1_ := Aside0.mk (hbox); have n2_ := Aside0.mk ((by rw [hg]; exact (below_size (by repeat (first | (with_reducible first | exact HB.out | apply below_alloc | apply pw_below_drewN | apply below_drew1) | exact HB.out))) : w.heap.size ≤ gb175)); have n3_ := Aside0.mk ((by rw [hg]; exact (below_size (by repeat (first | (with_reducible first | exact HB.out | apply below_alloc | apply pw_below_drewN | apply below_drew1) | exact HB.out))) : w.heap.size ≤ gb175)); clear HB; have HB := n0_; have BK175 := n1_; have GW175 := n2_; have GE175 := n3_; clear n0_ n1_ n2_ n3_; clear hb hbox hg; have hcz16_0 : w15.cell? ⟨gb175, 0, none⟩ = some (.int .i64 a0_0) := (blk_cell BK175.out 0).trans rfl; have hcz16_1 : w15.cell? ⟨gb175, 1, none⟩ = some (.int .i64 a0_1) := (blk_cell BK175.out 1).trans rfl; have hcz16_2 : w15.cell? ⟨gb175, 2, none⟩ = some (.bool a0_2) := (blk_cell BK175.out 2).trans rfl; have hcz16_3 : w15.cell? ⟨gb175, 3, none⟩ = some (.int .i64 a0_3) := (blk_cell BK175.out 3).trans rfl; have hcz16_4 : w15.cell? ⟨gb175, 4, none⟩ = some (.slice A0_4 l0_4.length c0_4) := (blk_cell BK175.out 4).trans rfl; have hfz16_0 := blk_frozen BK175.out 0; have hfz16_1 := blk_frozen BK175.out 1; have hfz16_2 := blk_frozen BK175.out 2; have hfz16_3 := blk_frozen BK175.out 3; have hfz16_4 := blk_frozen BK175.out 4))
            go_ret
            exact ⟨by first | rfl | (simp [errW_none, errW_some] <;> rfl) | (simp [*, errW_none, errW_some] <;> rfl), by repeat (first | (with_reducible first | exact HB.out | apply below_alloc | apply pw_below_drewN | apply below_drew1 | refine below_set ?_ GE175.out) | exact HB.out)⟩
          · rw [if_neg c14] at H
            have c14b0 : decide (a0_3 < 0) = false := decide_eq_false c14
            clear c14
            by_cases c17 : a0_3 > 1073741824
            · rw [if_pos c17] at H
              have c17b0 : decide (1073741824 < a0_3) = true := decide_eq_true c17
              clear c17
              obtain rfl := Option.some.inj H
              go_enter Tryd.func42, Tryd.ntmps42
              go_wp2_with (first | ((with_reducible refine gate_dst (N := 1) rfl ?_); (try (refine gate_guard (by rfl) ?_; dsimp only)); refine box_event ?hg (N := 1) ?hd (cs := #[.int .i64 a0_0, .int .i64 a0_1, .bool a0_2, .int .i64 a0_3, .slice A0_4 l0_4.length c0_4]) (t := 24) ?hr ?_; (case hd => rfl); (case hg => rfl); (case hr => first | (go_simp; done) | (go_simp; rfl)); intro gb175 hg w18 hbox hb; have n0_ := Aside0.mk (below_step (by repeat (first | (with_reducible first | exact HB.out | apply below_alloc | apply pw_below_drewN | apply below_drew1) | exact HB.out)) hb); have n1_ := Aside0.mk (hbox); have n2_ := Aside0.mk ((by rw [hg]; exact (below_size (by repeat (first | (with_reducible first | exact HB.out | apply below_alloc | apply pw_below_drewN | apply below_drew1) | exact HB.out))) : w.heap.size ≤ gb175)); have n3_ := Aside0.mk ((by rw [hg]; exact (below_size (by repeat (first | (with_reducible first | exact HB.out | apply below_alloc | apply pw_below_drewN | apply below_drew1) | exact HB.out))) : w.heap.size ≤ gb175)); clear HB; have HB := n0_; have BK175 := n1_; have GW175 := n2_; have GE175 := n3_; clear n0_ n1_ n2_ n3_; clear hb hbox hg; have hcz19_0 : w18.cell? ⟨gb175, 0, none⟩ = some (.int .i64 a0_0) := (blk_cell BK175.out 0).trans rfl; have hcz19_1 : w18.cell? ⟨gb175, 1, none⟩ = some (.int .i64 a0_1) := (blk_cell BK175.out 1).trans rfl; have hcz19_2 : w18.cell? ⟨gb175, 2, none⟩ = some (.bool a0_2) := (blk_cell BK175.out 2).trans rfl; have hcz19_3 : w18.cell? ⟨gb175, 3, none⟩ = some (.int .i64 a0_3) := (blk_cell BK175.out 3).trans rfl; have hcz19_4 : w18.cell? ⟨gb175, 4, none⟩ = some (.slice A0_4 l0_4.length c0_4) := (blk_cell BK175.out 4).trans rfl; have hfz19_0 := blk_frozen BK175.out 0; have hfz19_1 := blk_frozen BK175.out 1; have hfz19_2 := blk_frozen BK175.out 2; have hfz19_3 := blk_frozen BK175.out 3; have hfz19_4 := blk_frozen BK175.out 4))
              go_ret
              exact ⟨by first | rfl | (simp [errW_none, errW_some] <;> rfl) | (simp [*, errW_none, errW_some] <;> rfl), by repeat (first | (with_reducible first | exact HB.out | apply below_alloc | apply pw_below_drewN | apply below_drew1 | refine below_set ?_ GE175.out) | exact HB.out)⟩
            · rw [if_neg c17] at H
              have c17b0 : decide (1073741824 < a0_3) = false := decide_eq_false c17
              clear c17
              by_cases c20 : (l0_4.length : Int) > 32768
              · rw [if_pos c20] at H
                have c20b0 : decide (32768 < (l0_4.length : Int)) = true := decide_eq_true c20
                have c20b1 : decide (32768 < l0_4.length) = true := decide_eq_true (by omega)
                clear c20
                obtain rfl := Option.some.inj H
                go_enter Tryd.func42, Tryd.ntmps42
                go_wp2_with (first | ((with_reducible refine gate_dst (N := 1) rfl ?_); (try (refine gate_guard (by rfl) ?_; dsimp only)); refine box_event ?hg (N := 1) ?hd (cs := #[.int .i64 a0_0, .int .i64 a0_1, .bool a0_2, .int .i64 a0_3, .slice A0_4 l0_4.length c0_4]) (t := 24) ?hr ?_; (case hd => rfl); (case hg => rfl); (case hr => first | (go_simp; done) | (go_simp; rfl)); intro gb175 hg w21 hbox hb; have n0_ := Aside0.mk (below_step (by repeat (first | (with_reducible first | exact HB.out | apply below_alloc | apply pw_below_drewN | apply below_drew1) | exact HB.out)) hb); have n1_ := Aside0.mk (hbox); have n2_ := Aside0.mk ((by rw [hg]; exact (below_size (by repeat (first | (with_reducible first | exact HB.out | apply below_alloc | apply pw_below_drewN | apply below_drew1) | exact HB.out))) : w.heap.size ≤ gb175)); have n3_ := Aside0.mk ((by rw [hg]; exact (below_size (by repeat (first | (with_reducible first | exact HB.out | apply below_alloc | apply pw_below_drewN | apply below_drew1) | exact HB.out))) : w.heap.size ≤ gb175)); clear HB; have HB := n0_; have BK175 := n1_; have GW175 := n2_; have GE175 := n3_; clear n0_ n1_ n2_ n3_; clear hb hbox hg; have hcz22_0 : w21.cell? ⟨gb175, 0, none⟩ = some (.int .i64 a0_0) := (blk_cell BK175.out 0).trans rfl; have hcz22_1 : w21.cell? ⟨gb175, 1, none⟩ = some (.int .i64 a0_1) := (blk_cell BK175.out 1).trans rfl; have hcz22_2 : w21.cell? ⟨gb175, 2, none⟩ = some (.bool a0_2) := (blk_cell BK175.out 2).trans rfl; have hcz22_3 : w21.cell? ⟨gb175, 3, none⟩ = some (.int .i64 a0_3) := (blk_cell BK175.out 3).trans rfl; have hcz22_4 : w21.cell? ⟨gb175, 4, none⟩ = some (.slice A0_4 l0_4.length c0_4) := (blk_cell BK175.out 4).trans rfl; have hfz22_0 := blk_frozen BK175.out 0; have hfz22_1 := blk_frozen BK175.out 1; have hfz22_2 := blk_frozen BK175.out 2; have hfz22_3 := blk_frozen BK175.out 3; have hfz22_4 := blk_frozen BK175.out 4))
                go_ret
                exact ⟨by first | rfl | (simp [errW_none, errW_some] <;> rfl) | (simp [*, errW_none, errW_some] <;> rfl), by repeat (first | (with_reducible first | exact HB.out | apply below_alloc | apply pw_below_drewN | apply below_drew1 | refine below_set ?_ GE175.out) | exact HB.out)⟩
              · rw [if_neg c20] at H
                have c20b0 : decide (32768 < (l0_4.length : Int)) = false := decide_eq_false c20
                have c20b1 : decide (32768 < l0_4.length) = false := decide_eq_false (by omega)
                clear c20
                by_cases c23 : a0_2 = true
                · subst c23
                  have H1 : (some true) = some r := by rw [if_pos rfl] at H; exact H
                  clear H
                  have H := H1
                  clear H1
                  obtain rfl := Option.some.inj H
                  go_enter Tryd.func42, Tryd.ntmps42
                  go_wp2_with (first | ((with_reducible refine gate_dst (N := 1) rfl ?_); (try (refine gate_guard (by rfl) ?_; dsimp only)); refine box_event ?hg (N := 1) ?hd (cs := #[.int .i64 a0_0, .int .i64 a0_1, .bool true, .int .i64 a0_3, .slice A0_4 l0_4.length c0_4]) (t := 24) ?hr ?_; (case hd => rfl); (case hg => rfl); (case hr => first | (go_simp; done) | (go_simp; rfl)); intro gb175 hg w24 hbox hb; have n0_ := Aside0.mk (below_step (by repeat (first | (with_reducible first | exact HB.out | apply below_alloc | apply pw_below_drewN | apply below_drew1) | exact HB.out)) hb); have n1_ := Aside0.mk (hbox); have n2_ := Aside0.mk ((by rw [hg]; exact (below_size (by repeat (first | (with_reducible first | exact HB.out | apply below_alloc | apply pw_below_drewN | apply below_drew1) | exact HB.out))) : w.heap.size ≤ gb175)); have n3_ := Aside0.mk ((by rw [hg]; exact (below_size (by repeat (first | (with_reducible first | exact HB.out | apply below_alloc | apply pw_below_drewN | apply below_drew1) | exact HB.out))) : w.heap.size ≤ gb175)); clear HB; have HB := n0_; have BK175 := n1_; have GW175 := n2_; have GE175 := n3_; clear n0_ n1_ n2_ n3_; clear hb hbox hg; have hcz25_0 : w24.cell? ⟨gb175, 0, none⟩ = some (.int .i64 a0_0) := (blk_cell BK175.out 0).trans rfl; have hcz25_1 : w24.cell? ⟨gb175, 1, none⟩ = some (.int .i64 a0_1) := (blk_cell BK175.out 1).trans rfl; have hcz25_2 : w24.cell? ⟨gb175, 2, none⟩ = some (.bool true) := (blk_cell BK175.out 2).trans rfl; have hcz25_3 : w24.cell? ⟨gb175, 3, none⟩ = some (.int .i64 a0_3) := (blk_cell BK175.out 3).trans rfl; have hcz25_4 : w24.cell? ⟨gb175, 4, none⟩ = some (.slice A0_4 l0_4.length c0_4) := (blk_cell BK175.out 4).trans rfl; have hfz25_0 := blk_frozen BK175.out 0; have hfz25_1 := blk_frozen BK175.out 1; have hfz25_2 := blk_frozen BK175.out 2; have hfz25_3 := blk_frozen BK175.out 3; have hfz25_4 := blk_frozen BK175.out 4))
                  go_ret
                  exact ⟨by first | rfl | (simp [errW_none, errW_some] <;> rfl) | (simp [*, errW_none, errW_some] <;> rfl), by repeat (first | (with_reducible first | exact HB.out | apply below_alloc | apply pw_below_drewN | apply below_drew1 | refine below_set ?_ GE175.out) | exact HB.out)⟩
                · replace c23 := Bool.eq_false_iff.mpr c23
                  subst c23
                  have H1 : (if a0_3 = 0 then (some ((l0_4.length : Int) == 0)) else (some false)) = some r := by rw [if_neg (show ¬ (false = true) by decide)] at H; exact H
                  clear H
                  have H := H1
                  clear H1
                  by_cases c26 : a0_3 = 0
                  · rw [if_pos c26] at H
                    have c26b0 : (a0_3 == 0) = true := beq_iff_eq.mpr c26
                    have c26b1 : (a0_3 != 0) = false := bne_eq_false_iff_eq.mpr c26
                    clear c26
                    obtain rfl := Option.some.inj H
                    go_enter Tryd.func42, Tryd.ntmps42
                    go_wp2_with (first | ((with_reducible refine gate_dst (N := 1) rfl ?_); (try (refine gate_guard (by rfl) ?_; dsimp only)); refine box_event ?hg (N := 1) ?hd (cs := #[.int .i64 a0_0, .int .i64 a0_1, .bool false, .int .i64 a0_3, .slice A0_4 l0_4.length c0_4]) (t := 24) ?hr ?_; (case hd => rfl); (case hg => rfl); (case hr => first | (go_simp; done) | (go_simp; rfl)); intro gb175 hg w27 hbox hb; have n0_ := Aside0.mk (below_step (by repeat (first | (with_reducible first | exact HB.out | apply below_alloc | apply pw_below_drewN | apply below_drew1) | exact HB.out)) hb); have n1_ := Aside0.mk (hbox); have n2_ := Aside0.mk ((by rw [hg]; exact (below_size (by repeat (first | (with_reducible first | exact HB.out | apply below_alloc | apply pw_below_drewN | apply below_drew1) | exact HB.out))) : w.heap.size ≤ gb175)); have n3_ := Aside0.mk ((by rw [hg]; exact (below_size (by repeat (first | (with_reducible first | exact HB.out | apply below_alloc | apply pw_below_drewN | apply below_drew1) | exact HB.out))) : w.heap.size ≤ gb175)); clear HB; have HB := n0_; have BK175 := n1_; have GW175 := n2_; have GE175 := n3_; clear n0_ n1_ n2_ n3_; clear hb hbox hg; have hcz28_0 : w27.cell? ⟨gb175, 0, none⟩ = some (.int .i64 a0_0) := (blk_cell BK175.out 0).trans rfl; have hcz28_1 : w27.cell? ⟨gb175, 1, none⟩ = some (.int .i64 a0_1) := (blk_cell BK175.out 1).trans rfl; have hcz28_2 : w27.cell? ⟨gb175, 2, none⟩ = some (.bool false) := (blk_cell BK175.out 2).trans rfl; have hcz28_3 : w27.cell? ⟨gb175, 3, none⟩ = some (.int .i64 a0_3) := (blk_cell BK175.out 3).trans rfl; have hcz28_4 : w27.cell? ⟨gb175, 4, none⟩ = some (.slice A0_4 l0_4.length c0_4) := (blk_cell BK175.out 4).trans rfl; have hfz28_0 := blk_frozen BK175.out 0; have hfz28_1 := blk_frozen BK175.out 1; have hfz28_2 := blk_frozen BK175.out 2; have hfz28_3 := blk_frozen BK175.out 3; have hfz28_4 := blk_frozen BK175.out 4))
                    go_ret
                    exact ⟨by first | rfl | (simp [errW_none, errW_some] <;> rfl) | (simp [*, errW_none, errW_some] <;> rfl), by repeat (first | (with_reducible first | exact HB.out | apply below_alloc | apply pw_below_drewN | apply below_drew1 | refine below_set ?_ GE175.out) | exact HB.out)⟩
                  · rw [if_neg c26] at H
                    have c26b0 : (a0_3 == 0) = false := beq_eq_false_iff_ne.mpr c26
                    have c26b1 : (a0_3 != 0) = true := bne_iff_ne.mpr c26
                    obtain rfl := Option.some.inj H
                    go_enter Tryd.func42, Tryd.ntmps42
                    go_wp2_with (first | ((with_reducible refine gate_dst (N := 1) rfl ?_); (try (refine gate_guard (by rfl) ?_; dsimp only)); refine box_event ?hg (N := 1) ?hd (cs := #[.int .i64 a0_0, .int .i64 a0_1, .bool false, .int .i64 a0_3, .slice A0_4 l0_4.length c0_4]) (t := 24) ?hr ?_; (case hd => rfl); (case hg => rfl); (case hr => first | (go_simp; done) | (go_simp; rfl)); intro gb175 hg w29 hbox hb; have n0_ := Aside0.mk (below_step (by repeat (first | (with_reducible first | exact HB.out | apply below_alloc | apply pw_below_drewN | apply below_drew1) | exact HB.out)) hb); have n1_ := Aside0.mk (hbox); have n2_ := Aside0.mk ((by rw [hg]; exact (below_size (by repeat (first | (with_reducible first | exact HB.out | apply below_alloc | apply pw_below_drewN | apply below_drew1) | exact HB.out))) : w.heap.size ≤ gb175)); have n3_ := Aside0.mk ((by rw [hg]; exact (below_size (by repeat (first | (with_reducible first | exact HB.out | apply below_alloc | apply pw_below_drewN | apply below_drew1) | exact HB.out))) : w.heap.size ≤ gb175)); clear HB; have HB := n0_; have BK175 := n1_; have GW175 := n2_; have GE175 := n3_; clear n0_ n1_ n2_ n3_; clear hb hbox hg; have hcz30_0 : w29.cell? ⟨gb175, 0, none⟩ = some (.int .i64 a0_0) := (blk_cell BK175.out 0).trans rfl; have hcz30_1 : w29.cell? ⟨gb175, 1, none⟩ = some (.int .i64 a0_1) := (blk_cell BK175.out 1).trans rfl; have hcz30_2 : w29.cell? ⟨gb175, 2, none⟩ = some (.bool false) := (blk_cell BK175.out 2).trans rfl; have hcz30_3 : w29.cell? ⟨gb175, 3, none⟩ = some (.int .i64 a0_3) := (blk_cell BK175.out 3).trans rfl; have hcz30_4 : w29.cell? ⟨gb175, 4, none⟩ = some (.slice A0_4 l0_4.length c0_4) := (blk_cell BK175.out 4).trans rfl; have hfz30_0 := blk_frozen BK175.out 0; have hfz30_1 := blk_frozen BK175.out 1; have hfz30_2 := blk_frozen BK175.out 2; have hfz30_3 := blk_frozen BK175.out 3; have hfz30_4 := blk_frozen BK175.out 4))
                    go_ret
                    exact ⟨by first | rfl | (simp [errW_none, errW_some] <;> rfl) | (simp [*, errW_none, errW_some] <;> rfl), by repeat (first | (with_reducible first | exact HB.out | apply below_alloc | apply pw_below_drewN | apply below_drew1 | refine below_set ?_ GE175.out) | exact HB.out)⟩

-- NOT PRINTED: function 25 (counterpaneref20_End_Take)

end Go.Proofs.YthfgkkpibkkiaaaDoor.PSessionPlays
