/- A tick of the pair. -/
import Derived.Test.YthfgkkpibkkiaaaDoorSessY

set_option linter.unusedVariables false
set_option linter.unusedSimpArgs false
namespace Go.Proofs.YthfgkkpibkkiaaaDoor
open Go.RowKit Go.Proofs.YthfgkkpibkkiaaaDoorW.PrintWords Go.Proofs.YthfgkkpibkkiaaaDoorW.PrintLast Go.Proofs.YthfgkkpibkkiaaaDoor.PSessionPlays

theorem infoFly : (Tryd.prog.info? 80).map (fun i => (i.zero, i.size, i.bytes)) = some (some (.agg #[.bool false, .int .i64 0, .int .i64 0, .bool false, .int .i64 0, .slice none 0 0]), 6, 64) := by kernel_rfl
theorem kFly_mkM (w : World) (base : Nat) (ok : Nat → Prop) (f : Bool) (x : S24) {v4 : Value} (g4 : (Kd.int .u8).R 5 w base ok v4 x.f4) : kFly.M w base ok (f, x) [.bool f, .int .i64 x.f0, .int .i64 x.f1, .bool x.f2, .int .i64 x.f3, v4] := ⟨[.bool f], [.int .i64 x.f0, .int .i64 x.f1, .bool x.f2, .int .i64 x.f3, v4], rfl, rfl, k24_mkM w base ok x g4⟩
theorem ten_less {i : Nat} (h : i < 10) (hw : wrap64 ((i : Int) + 1) = ((i + 1 : Nat) : Int)) : 10 - (intOf (Value.int IntKind.i64 (wrap64 ((i : Int) + 1)))).toNat < 10 - (intOf (Value.int IntKind.i64 (i : Int))).toNat := by
  rw [hw]
  simp [intOf]
  omega
theorem take_map_succ (l : List (Bool × S24)) (f : Bool) (xs : List S24) (i : Nat) (x : S24) (hx : xs[i]? = some x) : l ++ (xs.take (i + 1)).map (fun x => (f, x)) = (l ++ (xs.take i).map (fun x => (f, x))) ++ [(f, x)] := by
  rw [List.take_add_one, hx]
  simp
theorem addL_of (l : List (Bool × S24)) (f : Bool) (xs : List S24) (i : Nat) (hi : i ≤ xs.length) (h200 : l.length + i ≤ 200) (h : ¬ (i < xs.length ∧ l.length + i < 200)) : l ++ (xs.take i).map (fun x => (f, x)) = addL l f xs := by
  unfold addL
  rcases Nat.lt_or_ge i xs.length with h1 | h1
  · rw [show 200 - l.length = i by omega]
  · rw [List.take_of_length_le h1, List.take_of_length_le (by omega)]
theorem tick_le4 (e : E) : (tickE e).length ≤ 4 := by
  unfold tickE windowOf
  split
  · rw [List.length_mapIdx, List.length_take]
    omega
  · simp
set_option maxRecDepth 100000 in
set_option maxHeartbeats 8000000 in
theorem step_tick (w1 w : World) (pb g1 g2 : Nat) (p : Pr) (h : PairAt w1 w pb g1 g2 p) (hc : Caps p) (m : Mv) (D : Option Addr) (dn dc : Nat) (hv : View w1 (D, dn, dc) m.data) (hdn : dn ≤ 140737488351232) (hlo : m.what = 2) :
    Calls Tryd.prog 30 #[.pointer (some ⟨pb, 0, none⟩), .agg #[.int .i64 m.what, .bool m.who, .int .i64 m.at_, .slice D dn dc]] w fun r w' => StepEnd w1 pb g1 g2 (pstep p m) r w' := by
  obtain ⟨F, hT, vl, vs, vt, Fl, Fs, Ft, us, ut, hP⟩ := h
  obtain ⟨wa, hwa⟩ : ∃ wa, wa = w.alloc (.cells #[.int .i64 m.what, .bool m.who, .int .i64 m.at_, .slice D dn dc] 59) := ⟨_, rfl⟩
  have hBa : Below w.heap.size w wa := by rw [hwa]; exact (Below.refl _ _).alloc (Nat.le_refl _) _
  have hMb : MBox wa w.heap.size m D dn dc := by unfold MBox; rw [hwa]; exact heap_alloc_new w _
  have hno : ∀ k, F k → k ≠ w.heap.size := fun k h' e => by have := (hP.fb _ h').2; omega
  have hT2 := hT.keep hBa
  have hP2 := hP.wide hBa hT.hB.size
  have hF2 : Since F w wa w.heap.size := .inr ⟨Nat.le_refl _, blk_lt hMb⟩
  have hne : w.heap.size ≠ pb ∧ ¬ Fl w.heap.size ∧ ¬ Fs w.heap.size ∧ ¬ Ft w.heap.size := ⟨fun e => hno pb hP.pF e.symm, fun h' => hno _ (hP.fl _ h').1 rfl, fun h' => hno _ (hP.fs _ h').1 rfl, fun h' => hno _ (hP.ft _ h').1 rfl⟩
  obtain ⟨F2, hFF⟩ : ∃ F2, F2 = Since F w wa := ⟨_, rfl⟩
  obtain ⟨mb, hmb⟩ : ∃ mb, mb = w.heap.size := ⟨_, rfl⟩
  rw [← hFF] at hT2 hP2 hF2
  rw [← hmb] at hMb hF2 hne
  have HW := Lib.hid (And.intro hwa hmb)
  have HT := Lib.hid hT2
  have HP := Lib.hid hP2
  have HM := Lib.hid hMb
  have HF := Lib.hid (And.intro hF2 hne)
  have HV := Lib.hid hv
  have HC := Lib.hid hc
  obtain ⟨m0, m1, m2, m3⟩ := hMb.cells
  obtain ⟨p0, p1, p2, p3, p4⟩ := HP.out.cells
  have hlm := blk_lt hMb
  have hlp := blk_lt HP.out.blk
  rw [hlo] at m0
  have HLO := Lib.hid hlo
  clear hlo hwa hBa hMb hT hP hv hc hmb hT2 hP2 hF2 hne hno hFF
  go_enter Tryd.func30, Tryd.ntmps30
  go_upto_region 1 with (fail)
  rw [← HW.out.1, ← HW.out.2]
  cases hq : m.who with
  | true =>
    rw [hq] at m1
    have HQ := Lib.hid hq
    clear hq
    go_wp2_with fail
    refine ((HT.out).look (fun S h => tick_any wa w1.heap.size g1 S p.a h HC.out.ac (by have := HC.out.as_; omega) HC.out.at_ HC.out.asz)).mono ?_
    rintro r w4 ⟨v, rfl, hR, hB4⟩
    have HT4 := Lib.hid (HT.out.keep hB4)
    have HP4 := Lib.hid (HP.out.wide hB4 HT.out.hB.size)
    have HM4 := Lib.hid (show MBox w4 mb m D dn dc from blk_below HM.out hB4)
    obtain ⟨X, hX⟩ : ∃ X : Nat → Prop, X = fun k => wa.heap.size ≤ k ∧ k < w4.heap.size := ⟨_, rfl⟩
    obtain ⟨F4, hF4⟩ : ∃ F4, F4 = Since F2 wa w4 := ⟨_, rfl⟩
    obtain ⟨xs, hxs⟩ : ∃ xs, xs = tickE p.a := ⟨_, rfl⟩
    rw [← hxs] at hR
    have HXS := Lib.hid hxs
    have HR4 := Lib.hid (show Kd.R k24 24 w4 w1.heap.size X v xs from by rw [hX]; exact Kd.R_lower (Kd.R_mono (Kd.R_bound hR) (fun k hk => ⟨hk.2.1, hk.2.2.1⟩)) HT.out.hB.size)
    have HX := Lib.hid (show ∀ k, X k → F4 k ∧ k ≠ pb ∧ ¬ Fs k ∧ ¬ Ft k ∧ some k ≠ vl.ownBlock from by
      intro k hk
      rw [hX] at hk
      rw [hF4]
      have hlow : ∀ j, F2 j → j < wa.heap.size := fun j hj => (HP.out.fb j hj).2
      refine ⟨.inr hk, fun e' => ?_, fun h' => ?_, fun h' => ?_, fun e' => ?_⟩
      · have := hlow pb HP.out.pF; omega
      · have := hlow k (HP.out.fs k h').1; omega
      · have := hlow k (HP.out.ft k h').1; omega
      · have := hlow k (HP.out.fl k (own_ok HP.out.rl k e'.symm)).1; omega)
    rw [← hF4] at HT4 HP4
    have HXM := Lib.hid (show ¬ X mb from by rw [hX]; intro h'; have := hlm; omega)
    have HPS := Lib.hid (show pstep p m = { p with l := addL p.l false (tickE p.a) } from by unfold pstep; rw [if_neg (by have := HLO.out; omega), if_pos HLO.out, HQ.out]; rfl)
    have HF4 := Lib.hid (show F4 mb ∧ mb ≠ pb ∧ ¬ Fl mb from by rw [hF4]; exact ⟨.inl HF.out.1, HF.out.2.1, HF.out.2.2.1⟩)
    obtain ⟨Av, cv, rfl⟩ := Kd.R_slice hR
    clear hR hB4 hX hF4 hxs HT HP HM HF m0 m1 m2 m3 p0 p1 p2 p3 p4 hlm hlp
    obtain ⟨L, hL⟩ : ∃ L, L = xs.length := ⟨_, rfl⟩
    rw [← hL] at HR4 ⊢
    have HL := Lib.hid hL
    have hL4 : L ≤ 4 := by rw [hL, HXS.out]; exact tick_le4 _
    clear hL
    go_wp2_with fail
    go_loopw [7] (fun vi wr => ∃ (i : Nat) (F : Nat → Prop) (vl : Value) (Fl : Nat → Prop), vi = .int .i64 (i : Int) ∧ i ≤ L ∧ p.l.length + i ≤ 200 ∧ TwoF 77 w1 wr F g1 g2 p.a p.b ∧ PairRows w1 wr F pb g1 g2 (p.l ++ (xs.take i).map (fun x => (false, x))) p.s p.t vl vs vt Fl Fs Ft us ut ∧ MBox wr mb m D dn dc ∧ (F mb ∧ mb ≠ pb ∧ ¬ Fl mb) ∧ Kd.R k24 24 wr w1.heap.size X (.slice Av L cv) xs ∧ (∀ k, X k → F k ∧ k ≠ pb ∧ ¬ Fs k ∧ ¬ Ft k ∧ some k ≠ vl.ownBlock)) (fun vi _ => 10 - (intOf vi).toNat)
    case atStart => exact ⟨0, F4, vl, Fl, rfl, by omega, HC.out.ll, HT4.out, by simpa using HP4.out, HM4.out, HF4.out, HR4.out, HX.out⟩
    case round =>
      obtain ⟨i, F, vl, Fl, rfl, hi, h200, hTr, hPr, hMr, hFr, hRr, hXr⟩ := hrel
      have HTr := Lib.hid hTr
      have HPr := Lib.hid hPr
      have HMr := Lib.hid hMr
      have HFr := Lib.hid hFr
      have HRr := Lib.hid hRr
      have HXr := Lib.hid hXr
      clear hTr hPr hMr hFr hRr hXr HT4 HP4 HM4 HF4 HR4 HX
      obtain ⟨m0, m1, m2, m3⟩ := HMr.out.cells
      rw [HQ.out] at m1
      obtain ⟨p0, p1, p2, p3, p4⟩ := HPr.out.cells
      have hlm := blk_lt HMr.out
      have hlp := blk_lt HPr.out.blk
      obtain ⟨Al, cl, hvl⟩ := Kd.R_slice HPr.out.rl
      obtain ⟨N, hN⟩ : ∃ N, N = (p.l ++ (xs.take i).map (fun x => (false, x))).length := ⟨_, rfl⟩
      rw [← hN] at hvl
      have hN2 : N = p.l.length + i := by rw [hN, List.length_append, List.length_map, List.length_take, ← HL.out]; omega
      rw [hvl] at p2
      have HVL := Lib.hid hvl
      have HN2 := Lib.hid hN2
      clear hN hvl hN2
      by_cases hcont : i < L ∧ N < 200
      · obtain ⟨hiL, hN3⟩ := hcont
        have HAR := Lib.hid (show i + 1 ≤ L ∧ p.l.length + (i + 1) ≤ 200 ∧ i < 10 ∧ wrap64 ((i : Int) + 1) = ((i + 1 : Nat) : Int) from ⟨by omega, by have := HN2.out; omega, by omega, wrap_succ (by omega)⟩)
        have d1 : (i : Int) < (L : Int) := by omega
        have d2 : (N : Int) < 200 := by omega
        have hi0 : (0 : Int) ≤ (i : Int) := by omega
        obtain ⟨x, hx⟩ : ∃ x, xs[i]? = some x := ⟨_, List.getElem?_eq_getElem (by rw [← HL.out]; exact hiL)⟩
        have hRx := HRr.out
        rw [HL.out] at hRx
        obtain ⟨ag, cap, hAg, _, _, _⟩ := Kd.R_form hRx (by rw [← HL.out]; omega)
        injection hAg with hA1 hA2 hA3
        subst hA1 hA3
        obtain ⟨cx, _, hM, hcx, _⟩ := Kd.R_elem hRx z24 (i : Int) hi0 (by rw [← HL.out]; exact d1)
        rw [Int.toNat_natCast, List.getD_eq_getElem?_getD, hx] at hM
        obtain ⟨v4, rfl, hR4⟩ := k24_openM hM
        obtain ⟨A4, c4, rfl⟩ := Kd.R_slice hR4
        simp only [Int.toNat_natCast] at hcx
        have x0 : wr.cell? ⟨ag, i * 5, none⟩ = some (.int .i64 x.f0) := hcx 0 _ rfl
        have x1 : wr.cell? ⟨ag, i * 5 + 1, none⟩ = some (.int .i64 x.f1) := hcx 1 _ rfl
        have x2 : wr.cell? ⟨ag, i * 5 + 2, none⟩ = some (.bool x.f2) := hcx 2 _ rfl
        have x3 : wr.cell? ⟨ag, i * 5 + 3, none⟩ = some (.int .i64 x.f3) := hcx 3 _ rfl
        have x4 : wr.cell? ⟨ag, i * 5 + 4, none⟩ = some (.slice A4 x.f4.length c4) := hcx 4 _ rfl
        have HDX := Lib.hid (Kd.R_mono (ok' := X) hR4 (fun k hk => hk.1))
        have HXX := Lib.hid hx
        have HS := Lib.hid (fun (w' : World) (h : Below wr.heap.size wr w') => (⟨h, pw_cell_below h p2, pw_cell_below h m1, pw_cell_below h x0, pw_cell_below h x1, pw_cell_below h x2, pw_cell_below h x3, pw_cell_below h x4⟩ : Below wr.heap.size wr w' ∧ w'.cell? ⟨pb, 2, none⟩ = some (.slice Al N cl) ∧ w'.cell? ⟨mb, 1, none⟩ = some (.bool true) ∧ w'.cell? ⟨ag, i * 5, none⟩ = some (.int .i64 x.f0) ∧ w'.cell? ⟨ag, i * 5 + 1, none⟩ = some (.int .i64 x.f1) ∧ w'.cell? ⟨ag, i * 5 + 2, none⟩ = some (.bool x.f2) ∧ w'.cell? ⟨ag, i * 5 + 3, none⟩ = some (.int .i64 x.f3) ∧ w'.cell? ⟨ag, i * 5 + 4, none⟩ = some (.slice A4 x.f4.length c4)))
        have HI2 := Lib.hid (And.intro hi h200)
        clear hRx hM hcx hR4 hx hi h200
        go_upto_region 15 with (fail)
        refine start_ (S := fun w' => Below wr.heap.size wr w' ∧ w'.cell? ⟨pb, 2, none⟩ = some (.slice Al N cl) ∧ w'.cell? ⟨mb, 1, none⟩ = some (.bool true) ∧ w'.cell? ⟨ag, i * 5, none⟩ = some (.int .i64 x.f0) ∧ w'.cell? ⟨ag, i * 5 + 1, none⟩ = some (.int .i64 x.f1) ∧ w'.cell? ⟨ag, i * 5 + 2, none⟩ = some (.bool x.f2) ∧ w'.cell? ⟨ag, i * 5 + 3, none⟩ = some (.int .i64 x.f3) ∧ w'.cell? ⟨ag, i * 5 + 4, none⟩ = some (.slice A4 x.f4.length c4)) (ds := [14, 15, 16, 17]) (n := 18) #[false, false, false, false, false, false, false, false, false, false, false, false, false, false, false, false, false, false] rfl rfl rfl ?hS0 (fun hHeld => ?hrun)
        case hS0 => exact HS.out _ (Below.refl _ _).drew
        case hrun =>
          refine pure_ (i := 0) (N := some 74) (v := ?_) (a' := ?_) #[true, false, false, false, false, false, false, false, false, false, false, false, false, false, false, false, false, false] rfl rfl (by kernel_rfl) (fun _ _ _ h => h) (Or.inl ⟨by rfl, ?_⟩) ?_ ?_
          rotate_left
          · intro w'
            go_simp
            first | done | with_reducible rfl
          rotate_left
          · simp only [Act.put, List.setIfInBounds_toArray, List.set_cons_zero, List.set_cons_succ, i64_w, i32_w]
            rfl
          refine pure_ (i := 1) (N := some 75) (v := ?_) (a' := ?_) #[true, true, false, false, false, false, false, false, false, false, false, false, false, false, false, false, false, false] rfl rfl (by kernel_rfl) (fun _ _ _ h => h) (Or.inl ⟨by rfl, ?_⟩) ?_ ?_
          rotate_left
          · intro w'
            go_simp
            first | done | with_reducible rfl
          rotate_left
          · simp only [Act.put, List.setIfInBounds_toArray, List.set_cons_zero, List.set_cons_succ, i64_w, i32_w]
            rfl
          refine pure_ (i := 2) (N := some 76) (v := ?_) (a' := ?_) #[true, true, true, false, false, false, false, false, false, false, false, false, false, false, false, false, false, false] rfl rfl (by kernel_rfl) (fun _ _ _ h => h) (Or.inl ⟨by rfl, ?_⟩) ?_ ?_
          rotate_left
          · intro w'
            go_simp
            first | done | with_reducible rfl
          rotate_left
          · simp only [Act.put, List.setIfInBounds_toArray, List.set_cons_zero, List.set_cons_succ, i64_w, i32_w]
            rfl
          refine pure_ (i := 3) (N := some 77) (v := ?_) (a' := ?_) #[true, true, true, true, false, false, false, false, false, false, false, false, false, false, false, false, false, false] rfl rfl (by kernel_rfl) (fun _ _ _ h => h) (Or.inl ⟨by rfl, ?_⟩) ?_ ?_
          rotate_left
          · intro w'
            go_simp
            first | done | with_reducible rfl
          rotate_left
          · simp only [Act.put, List.setIfInBounds_toArray, List.set_cons_zero, List.set_cons_succ, i64_w, i32_w]
            rfl
          refine take_ (i := 4) (N := some 78) (v := ?_) (a' := ?_) #[true, true, true, true, true, false, false, false, false, false, false, false, false, false, false, false, false, false] rfl rfl (by kernel_rfl) (fun _ _ _ h => h) (Or.inl ⟨by rfl, ?_⟩) hHeld ?_ ?_
          rotate_left
          · rintro w' ⟨hbe, s0, s1, s2, s3, s4, s5, s6⟩
            go_simp
            first | done | with_reducible rfl
          rotate_left
          · simp only [Act.put, List.setIfInBounds_toArray, List.set_cons_zero, List.set_cons_succ, i64_w, i32_w]
            rfl
          refine pure_ (i := 5) (N := some 79) (v := ?_) (a' := ?_) #[true, true, true, true, true, true, false, false, false, false, false, false, false, false, false, false, false, false] rfl rfl (by kernel_rfl) (fun _ _ _ h => h) (Or.inl ⟨by rfl, ?_⟩) ?_ ?_
          rotate_left
          · intro w'
            go_simp
            first | done | with_reducible rfl
          rotate_left
          · simp only [Act.put, List.setIfInBounds_toArray, List.set_cons_zero, List.set_cons_succ, i64_w, i32_w]
            rfl
          refine take_ (i := 6) (N := some 80) (v := ?_) (a' := ?_) #[true, true, true, true, true, true, true, false, false, false, false, false, false, false, false, false, false, false] rfl rfl (by kernel_rfl) (fun _ _ _ h => h) (Or.inl ⟨by rfl, ?_⟩) hHeld ?_ ?_
          rotate_left
          · rintro w' ⟨hbe, s0, s1, s2, s3, s4, s5, s6⟩
            go_simp
            first | done | with_reducible rfl
          rotate_left
          · simp only [Act.put, List.setIfInBounds_toArray, List.set_cons_zero, List.set_cons_succ, i64_w, i32_w]
            rfl
          refine pure_ (i := 7) (N := some 81) (v := ?_) (a' := ?_) #[true, true, true, true, true, true, true, true, false, false, false, false, false, false, false, false, false, false] rfl rfl (by kernel_rfl) (fun _ _ _ h => h) (Or.inl ⟨by rfl, ?_⟩) ?_ ?_
          rotate_left
          · intro w'
            go_simp
            first | done | with_reducible rfl
          rotate_left
          · simp only [Act.put, List.setIfInBounds_toArray, List.set_cons_zero, List.set_cons_succ, i64_w, i32_w]
            rfl
          refine pure_ (i := 8) (N := some 82) (v := ?_) (a' := ?_) #[true, true, true, true, true, true, true, true, true, false, false, false, false, false, false, false, false, false] rfl rfl (by kernel_rfl) (fun _ _ _ h => h) (Or.inl ⟨by rfl, ?_⟩) ?_ ?_
          rotate_left
          · intro w'
            go_simp
            first | done | with_reducible rfl
          rotate_left
          · simp only [Act.put, List.setIfInBounds_toArray, List.set_cons_zero, List.set_cons_succ, i64_w, i32_w]
            rfl
          refine pure_ (i := 9) (N := some 83) (v := ?_) (a' := ?_) #[true, true, true, true, true, true, true, true, true, true, false, false, false, false, false, false, false, false] rfl rfl (by kernel_rfl) (fun _ _ _ h => h) (Or.inl ⟨by rfl, ?_⟩) ?_ ?_
          rotate_left
          · intro w'
            go_simp
            first | done | with_reducible rfl
          rotate_left
          · simp only [Act.put, List.setIfInBounds_toArray, List.set_cons_zero, List.set_cons_succ, i64_w, i32_w]
            rfl
          refine pure_ (i := 10) (N := some 84) (v := ?_) (a' := ?_) #[true, true, true, true, true, true, true, true, true, true, true, false, false, false, false, false, false, false] rfl rfl (by kernel_rfl) (fun _ _ _ h => h) (Or.inl ⟨by rfl, ?_⟩) ?_ ?_
          rotate_left
          · intro w'
            go_simp
            first | done | with_reducible rfl
          rotate_left
          · simp only [Act.put, List.setIfInBounds_toArray, List.set_cons_zero, List.set_cons_succ, i64_w, i32_w]
            rfl
          refine take_ (i := 11) (N := some 85) (v := ?_) (a' := ?_) #[true, true, true, true, true, true, true, true, true, true, true, true, false, false, false, false, false, false] rfl rfl (by kernel_rfl) (fun _ _ _ h => h) (Or.inl ⟨by rfl, ?_⟩) hHeld ?_ ?_
          rotate_left
          · rintro w' ⟨hbe, s0, s1, s2, s3, s4, s5, s6⟩
            go_simp
            first | done | with_reducible rfl
          rotate_left
          · simp only [Act.put, List.setIfInBounds_toArray, List.set_cons_zero, List.set_cons_succ, i64_w, i32_w]
            rfl
          refine pure_ (i := 12) (N := some 86) (v := ?_) (a' := ?_) #[true, true, true, true, true, true, true, true, true, true, true, true, true, false, false, false, false, false] rfl rfl (by kernel_rfl) (fun _ _ _ h => h) (Or.inl ⟨by rfl, ?_⟩) ?_ ?_
          rotate_left
          · intro w'
            go_simp
            first | done | with_reducible rfl
          rotate_left
          · simp only [Act.put, List.setIfInBounds_toArray, List.set_cons_zero, List.set_cons_succ, i64_w, i32_w]
            rfl
          refine one_ (i := 13) (N := some 87) #[true, true, true, true, true, true, true, true, true, true, true, true, true, true, false, false, false, false] rfl rfl (by kernel_rfl) (by decide) (fun K hK => ?_)
          refine value_ (by rfl) rfl (by go_simp; first | rfl | exact ⟨rfl, rfl⟩) ?_
          refine hK.out _ _ (HS.out _ ((Below.refl wr.heap.size wr).alloc (Nat.le_refl _) _).drew) (fun hHeld1 => ?_)
          clear hK K
          refine norm_ (a' := ?_) ?_ ?_
          rotate_left
          · show Act.put _ (some 87) _ = _
            simp only [Act.put, List.setIfInBounds_toArray, List.set_cons_zero, List.set_cons_succ, i64_w, i32_w]
            rfl
          refine tail_list 14 (t := [14, 15, 16, 17]) (fuel := 0) rfl rfl rfl (by kernel_rfl) (by decide) ?_
          have hbr := HTr.out.hB
          have hxl := HPr.out.rl
          rw [HVL.out] at hxl
          refine Kd.R_append kFly (w0 := w1) (W := wr.drew) w1.heap.size rfl _ _ 53 80 (.agg #[.bool false, .int .i64 0, .int .i64 0, .bool false, .int .i64 0, .slice none 0 0]) 64 rfl Tryd.underlying53 infoFly rfl (by decide) (by decide) (.slice Al N cl) (p.l ++ (xs.take i).map (fun x => (false, x))) (false, x) [.bool false, .int .i64 x.f0, .int .i64 x.f1, .bool x.f2, .int .i64 x.f3, .slice A4 x.f4.length c4] (fun k => (Fl k ∨ X k) ∨ wr.heap.size ≤ k) X rfl rfl ?hp ?hokp ?hfresh ?HO ?HB ?hb2 ?hl2 ?hk2
          case hp => exact kFly_mkM _ _ _ _ _ (Kd.R_drew HDX.out)
          case hokp =>
            intro k hk
            have := (HXr.out k hk).2.2.2.2
            rw [HVL.out] at this
            exact ⟨.inl (.inr hk), this⟩
          case hfresh => exact fun k hk => .inr hk
          case HO => exact Kd.R_drew (Kd.R_mono hxl (fun k hk => .inl (.inl hk)))
          case HB => exact hbr.drew
          case hb2 => exact hbr.size
          case hl2 => have := HN2.out; have := HI2.out.2; rw [List.length_append, List.length_map, List.length_take]; omega
          case hk2 =>
            intro v1 w9 hR1 _ hg9 hat9
            have hg9' : wr.grownBy w9 (Value.slice Al N cl).ownBlock := ⟨hg9.os, hg9.tape, hg9.output, hg9.size, hg9.block⟩
            have hown : ∀ k, (Value.slice Al N cl).ownBlock = some k → Fl k := fun k hk => own_ok hxl k hk
            obtain ⟨hp9, hTF, hP9⟩ := HPr.out.putL hbr.size (X := fun k => Fl k ∨ X k) (fun k hk => by
              rcases hk with hk | hk
              · exact HPr.out.fl k hk
              · exact ⟨(HXr.out k hk).1, (HXr.out k hk).2.1, (HXr.out k hk).2.2.1, (HXr.out k hk).2.2.2.1⟩) hR1 hg9' (fun k hk => .inl (hown k hk))
            rw [← take_map_succ _ _ _ _ _ HXX.out] at hP9
            have hlmb := blk_lt HMr.out
            have hm9 : MBox (w9.setCell ⟨pb, 2, none⟩ v1) mb m D dn dc := by
              unfold MBox
              rw [Below.heap_setCell _ _ _ _ (show mb ≠ (⟨pb, 2, none⟩ : Addr).block from HFr.out.2.1)]
              exact (hg9'.block mb hlmb (fun e' => HFr.out.2.2 (hown mb e'.symm))).trans HMr.out
            have hr9 : Kd.R k24 24 (w9.setCell ⟨pb, 2, none⟩ v1) w1.heap.size X (.slice (some ⟨ag, 0, none⟩) L cv) xs :=
              Kd.R_far (Kd.R_step HRr.out (fun k hk hl => hg9'.block k hl (by have := (HXr.out k hk).2.2.2.2; rw [HVL.out] at this; exact this))) (fun k hk => (HXr.out k hk).2.1) _
            obtain ⟨_, _, q2, q3, q4⟩ := cells5 hp9
            rw [HVL.out] at q2
            have hf9 := blk_frozen hp9 2
            have hl9 := blk_lt hp9
            have HP9 := Lib.hid hP9
            have HT9 := Lib.hid (HTr.out.widen hTF (fun i hi => (HPr.out.fb i hi).1))
            have HM9 := Lib.hid (And.intro hm9 hr9)
            have hsz9 := hg9'.size
            have HX9 := Lib.hid (show ∀ k, X k → Since F wr w9 k ∧ k ≠ pb ∧ ¬ Fs k ∧ ¬ Ft k ∧ some k ≠ v1.ownBlock from by
              intro k hk
              have hk0 := HXr.out k hk
              refine ⟨.inl hk0.1, hk0.2.1, hk0.2.2.1, hk0.2.2.2.1, ?_⟩
              rcases hat9 with ha | ⟨b, ha, hb⟩
              · rw [ha]; have := hk0.2.2.2.2; rw [HVL.out] at this; exact this
              · rw [ha]
                intro e'
                obtain rfl := Option.some.inj e'
                have h1 := (HPr.out.fb k hk0.1).2
                have h2 : wr.heap.size ≤ k := hb
                omega)
            have HNM := Lib.hid (show ¬ (((Fl mb ∨ X mb) ∨ wr.heap.size ≤ mb) ∧ mb < w9.heap.size) from by
              rintro ⟨(h' | h') | h', _⟩
              · exact HFr.out.2.2 h'
              · exact HXM.out h'
              · have := blk_lt HMr.out; omega)
            obtain ⟨A1, c1', rfl⟩ := Kd.R_slice hR1
            have hln : (p.l ++ (xs.take i).map (fun x => (false, x)) ++ [(false, x)]).length = N + 1 := by have := HN2.out; rw [List.length_append, List.length_append, List.length_map, List.length_take, ← HL.out]; simp; omega
            rw [hln] at HP9 HT9 HM9 HX9 ⊢
            clear hp9 hTF hP9 hR1 hg9 hat9 hg9' hown hm9 hr9 hHeld hHeld1 p0 p1 p2 p3 p4 m0 m1 m2 m3 hlm hlp x0 x1 x2 x3 x4 hlmb hxl hbr hln
            clear hsz9 d1 d2 hi0 hiL hN3
            go_wp2_with fail
            have ht := HT9.out
            rw [since_set] at ht
            exact ⟨⟨i + 1, _, _, _, by rw [HAR.out.2.2.2], HAR.out.1, HAR.out.2.1, ht, HP9.out, HM9.out.1, ⟨.inl HFr.out.1, HFr.out.2.1, HNM.out⟩, HM9.out.2, HX9.out⟩, ten_less HAR.out.2.2.1 HAR.out.2.2.2⟩
      · have d1 : (i : Int) < (L : Int) → ¬ (N : Int) < 200 := by omega
        have hfin := addL_of p.l false xs i (by rw [← HL.out]; exact hi) h200 (by rw [← HL.out, ← HN2.out]; exact hcont)
        have HFIN := Lib.hid hfin
        clear hfin hcont
        by_cases hiL : i < L
        · have d0 : (i : Int) < (L : Int) := by omega
          have d2 := d1 d0
          clear d1
          go_wp2_with fail
          try simp only [Exit.inBlock, Exit.then]
          first | (refine bodyPost_ret (results_none rfl _ _ _) rfl ?_) | (refine bodyPost_end (results_none rfl _ _ _) rfl ?_)
          refine ⟨⟨_, rfl⟩, ?_⟩
          rw [HPS.out]
          exact ⟨_, HTr.out, _, _, _, _, _, _, _, _, by have h := HPr.out; rw [HFIN.out, HXS.out] at h; exact h⟩
        · have d0 : ¬ (i : Int) < (L : Int) := by omega
          clear d1
          go_wp2_with fail
          try simp only [Exit.inBlock, Exit.then]
          first | (refine bodyPost_ret (results_none rfl _ _ _) rfl ?_) | (refine bodyPost_end (results_none rfl _ _ _) rfl ?_)
          refine ⟨⟨_, rfl⟩, ?_⟩
          rw [HPS.out]
          exact ⟨_, HTr.out, _, _, _, _, _, _, _, _, by have h := HPr.out; rw [HFIN.out, HXS.out] at h; exact h⟩
  | false =>
    rw [hq] at m1
    have HQ := Lib.hid hq
    clear hq
    go_wp2_with fail
    refine ((HT.out.swap).look (fun S h => tick_any wa w1.heap.size g2 S p.b h HC.out.bc (by have := HC.out.bs; omega) HC.out.bt HC.out.bsz)).mono ?_
    rintro r w4 ⟨v, rfl, hR, hB4⟩
    have HT4 := Lib.hid (HT.out.keep hB4)
    have HP4 := Lib.hid (HP.out.wide hB4 HT.out.hB.size)
    have HM4 := Lib.hid (show MBox w4 mb m D dn dc from blk_below HM.out hB4)
    obtain ⟨X, hX⟩ : ∃ X : Nat → Prop, X = fun k => wa.heap.size ≤ k ∧ k < w4.heap.size := ⟨_, rfl⟩
    obtain ⟨F4, hF4⟩ : ∃ F4, F4 = Since F2 wa w4 := ⟨_, rfl⟩
    obtain ⟨xs, hxs⟩ : ∃ xs, xs = tickE p.b := ⟨_, rfl⟩
    rw [← hxs] at hR
    have HXS := Lib.hid hxs
    have HR4 := Lib.hid (show Kd.R k24 24 w4 w1.heap.size X v xs from by rw [hX]; exact Kd.R_lower (Kd.R_mono (Kd.R_bound hR) (fun k hk => ⟨hk.2.1, hk.2.2.1⟩)) HT.out.hB.size)
    have HX := Lib.hid (show ∀ k, X k → F4 k ∧ k ≠ pb ∧ ¬ Fs k ∧ ¬ Ft k ∧ some k ≠ vl.ownBlock from by
      intro k hk
      rw [hX] at hk
      rw [hF4]
      have hlow : ∀ j, F2 j → j < wa.heap.size := fun j hj => (HP.out.fb j hj).2
      refine ⟨.inr hk, fun e' => ?_, fun h' => ?_, fun h' => ?_, fun e' => ?_⟩
      · have := hlow pb HP.out.pF; omega
      · have := hlow k (HP.out.fs k h').1; omega
      · have := hlow k (HP.out.ft k h').1; omega
      · have := hlow k (HP.out.fl k (own_ok HP.out.rl k e'.symm)).1; omega)
    rw [← hF4] at HT4 HP4
    have HXM := Lib.hid (show ¬ X mb from by rw [hX]; intro h'; have := hlm; omega)
    have HPS := Lib.hid (show pstep p m = { p with l := addL p.l true (tickE p.b) } from by unfold pstep; rw [if_neg (by have := HLO.out; omega), if_pos HLO.out, HQ.out]; rfl)
    have HF4 := Lib.hid (show F4 mb ∧ mb ≠ pb ∧ ¬ Fl mb from by rw [hF4]; exact ⟨.inl HF.out.1, HF.out.2.1, HF.out.2.2.1⟩)
    obtain ⟨Av, cv, rfl⟩ := Kd.R_slice hR
    clear hR hB4 hX hF4 hxs HT HP HM HF m0 m1 m2 m3 p0 p1 p2 p3 p4 hlm hlp
    obtain ⟨L, hL⟩ : ∃ L, L = xs.length := ⟨_, rfl⟩
    rw [← hL] at HR4 ⊢
    have HL := Lib.hid hL
    have hL4 : L ≤ 4 := by rw [hL, HXS.out]; exact tick_le4 _
    clear hL
    go_wp2_with fail
    go_loopw [7] (fun vi wr => ∃ (i : Nat) (F : Nat → Prop) (vl : Value) (Fl : Nat → Prop), vi = .int .i64 (i : Int) ∧ i ≤ L ∧ p.l.length + i ≤ 200 ∧ TwoF 77 w1 wr F g1 g2 p.a p.b ∧ PairRows w1 wr F pb g1 g2 (p.l ++ (xs.take i).map (fun x => (true, x))) p.s p.t vl vs vt Fl Fs Ft us ut ∧ MBox wr mb m D dn dc ∧ (F mb ∧ mb ≠ pb ∧ ¬ Fl mb) ∧ Kd.R k24 24 wr w1.heap.size X (.slice Av L cv) xs ∧ (∀ k, X k → F k ∧ k ≠ pb ∧ ¬ Fs k ∧ ¬ Ft k ∧ some k ≠ vl.ownBlock)) (fun vi _ => 10 - (intOf vi).toNat)
    case atStart => exact ⟨0, F4, vl, Fl, rfl, by omega, HC.out.ll, HT4.out, by simpa using HP4.out, HM4.out, HF4.out, HR4.out, HX.out⟩
    case round =>
      obtain ⟨i, F, vl, Fl, rfl, hi, h200, hTr, hPr, hMr, hFr, hRr, hXr⟩ := hrel
      have HTr := Lib.hid hTr
      have HPr := Lib.hid hPr
      have HMr := Lib.hid hMr
      have HFr := Lib.hid hFr
      have HRr := Lib.hid hRr
      have HXr := Lib.hid hXr
      clear hTr hPr hMr hFr hRr hXr HT4 HP4 HM4 HF4 HR4 HX
      obtain ⟨m0, m1, m2, m3⟩ := HMr.out.cells
      rw [HQ.out] at m1
      obtain ⟨p0, p1, p2, p3, p4⟩ := HPr.out.cells
      have hlm := blk_lt HMr.out
      have hlp := blk_lt HPr.out.blk
      obtain ⟨Al, cl, hvl⟩ := Kd.R_slice HPr.out.rl
      obtain ⟨N, hN⟩ : ∃ N, N = (p.l ++ (xs.take i).map (fun x => (true, x))).length := ⟨_, rfl⟩
      rw [← hN] at hvl
      have hN2 : N = p.l.length + i := by rw [hN, List.length_append, List.length_map, List.length_take, ← HL.out]; omega
      rw [hvl] at p2
      have HVL := Lib.hid hvl
      have HN2 := Lib.hid hN2
      clear hN hvl hN2
      by_cases hcont : i < L ∧ N < 200
      · obtain ⟨hiL, hN3⟩ := hcont
        have HAR := Lib.hid (show i + 1 ≤ L ∧ p.l.length + (i + 1) ≤ 200 ∧ i < 10 ∧ wrap64 ((i : Int) + 1) = ((i + 1 : Nat) : Int) from ⟨by omega, by have := HN2.out; omega, by omega, wrap_succ (by omega)⟩)
        have d1 : (i : Int) < (L : Int) := by omega
        have d2 : (N : Int) < 200 := by omega
        have hi0 : (0 : Int) ≤ (i : Int) := by omega
        obtain ⟨x, hx⟩ : ∃ x, xs[i]? = some x := ⟨_, List.getElem?_eq_getElem (by rw [← HL.out]; exact hiL)⟩
        have hRx := HRr.out
        rw [HL.out] at hRx
        obtain ⟨ag, cap, hAg, _, _, _⟩ := Kd.R_form hRx (by rw [← HL.out]; omega)
        injection hAg with hA1 hA2 hA3
        subst hA1 hA3
        obtain ⟨cx, _, hM, hcx, _⟩ := Kd.R_elem hRx z24 (i : Int) hi0 (by rw [← HL.out]; exact d1)
        rw [Int.toNat_natCast, List.getD_eq_getElem?_getD, hx] at hM
        obtain ⟨v4, rfl, hR4⟩ := k24_openM hM
        obtain ⟨A4, c4, rfl⟩ := Kd.R_slice hR4
        simp only [Int.toNat_natCast] at hcx
        have x0 : wr.cell? ⟨ag, i * 5, none⟩ = some (.int .i64 x.f0) := hcx 0 _ rfl
        have x1 : wr.cell? ⟨ag, i * 5 + 1, none⟩ = some (.int .i64 x.f1) := hcx 1 _ rfl
        have x2 : wr.cell? ⟨ag, i * 5 + 2, none⟩ = some (.bool x.f2) := hcx 2 _ rfl
        have x3 : wr.cell? ⟨ag, i * 5 + 3, none⟩ = some (.int .i64 x.f3) := hcx 3 _ rfl
        have x4 : wr.cell? ⟨ag, i * 5 + 4, none⟩ = some (.slice A4 x.f4.length c4) := hcx 4 _ rfl
        have HDX := Lib.hid (Kd.R_mono (ok' := X) hR4 (fun k hk => hk.1))
        have HXX := Lib.hid hx
        have HS := Lib.hid (fun (w' : World) (h : Below wr.heap.size wr w') => (⟨h, pw_cell_below h p2, pw_cell_below h m1, pw_cell_below h x0, pw_cell_below h x1, pw_cell_below h x2, pw_cell_below h x3, pw_cell_below h x4⟩ : Below wr.heap.size wr w' ∧ w'.cell? ⟨pb, 2, none⟩ = some (.slice Al N cl) ∧ w'.cell? ⟨mb, 1, none⟩ = some (.bool false) ∧ w'.cell? ⟨ag, i * 5, none⟩ = some (.int .i64 x.f0) ∧ w'.cell? ⟨ag, i * 5 + 1, none⟩ = some (.int .i64 x.f1) ∧ w'.cell? ⟨ag, i * 5 + 2, none⟩ = some (.bool x.f2) ∧ w'.cell? ⟨ag, i * 5 + 3, none⟩ = some (.int .i64 x.f3) ∧ w'.cell? ⟨ag, i * 5 + 4, none⟩ = some (.slice A4 x.f4.length c4)))
        have HI2 := Lib.hid (And.intro hi h200)
        clear hRx hM hcx hR4 hx hi h200
        go_upto_region 15 with (fail)
        refine start_ (S := fun w' => Below wr.heap.size wr w' ∧ w'.cell? ⟨pb, 2, none⟩ = some (.slice Al N cl) ∧ w'.cell? ⟨mb, 1, none⟩ = some (.bool false) ∧ w'.cell? ⟨ag, i * 5, none⟩ = some (.int .i64 x.f0) ∧ w'.cell? ⟨ag, i * 5 + 1, none⟩ = some (.int .i64 x.f1) ∧ w'.cell? ⟨ag, i * 5 + 2, none⟩ = some (.bool x.f2) ∧ w'.cell? ⟨ag, i * 5 + 3, none⟩ = some (.int .i64 x.f3) ∧ w'.cell? ⟨ag, i * 5 + 4, none⟩ = some (.slice A4 x.f4.length c4)) (ds := [14, 15, 16, 17]) (n := 18) #[false, false, false, false, false, false, false, false, false, false, false, false, false, false, false, false, false, false] rfl rfl rfl ?hS0 (fun hHeld => ?hrun)
        case hS0 => exact HS.out _ (Below.refl _ _).drew
        case hrun =>
          refine pure_ (i := 0) (N := some 74) (v := ?_) (a' := ?_) #[true, false, false, false, false, false, false, false, false, false, false, false, false, false, false, false, false, false] rfl rfl (by kernel_rfl) (fun _ _ _ h => h) (Or.inl ⟨by rfl, ?_⟩) ?_ ?_
          rotate_left
          · intro w'
            go_simp
            first | done | with_reducible rfl
          rotate_left
          · simp only [Act.put, List.setIfInBounds_toArray, List.set_cons_zero, List.set_cons_succ, i64_w, i32_w]
            rfl
          refine pure_ (i := 1) (N := some 75) (v := ?_) (a' := ?_) #[true, true, false, false, false, false, false, false, false, false, false, false, false, false, false, false, false, false] rfl rfl (by kernel_rfl) (fun _ _ _ h => h) (Or.inl ⟨by rfl, ?_⟩) ?_ ?_
          rotate_left
          · intro w'
            go_simp
            first | done | with_reducible rfl
          rotate_left
          · simp only [Act.put, List.setIfInBounds_toArray, List.set_cons_zero, List.set_cons_succ, i64_w, i32_w]
            rfl
          refine pure_ (i := 2) (N := some 76) (v := ?_) (a' := ?_) #[true, true, true, false, false, false, false, false, false, false, false, false, false, false, false, false, false, false] rfl rfl (by kernel_rfl) (fun _ _ _ h => h) (Or.inl ⟨by rfl, ?_⟩) ?_ ?_
          rotate_left
          · intro w'
            go_simp
            first | done | with_reducible rfl
          rotate_left
          · simp only [Act.put, List.setIfInBounds_toArray, List.set_cons_zero, List.set_cons_succ, i64_w, i32_w]
            rfl
          refine pure_ (i := 3) (N := some 77) (v := ?_) (a' := ?_) #[true, true, true, true, false, false, false, false, false, false, false, false, false, false, false, false, false, false] rfl rfl (by kernel_rfl) (fun _ _ _ h => h) (Or.inl ⟨by rfl, ?_⟩) ?_ ?_
          rotate_left
          · intro w'
            go_simp
            first | done | with_reducible rfl
          rotate_left
          · simp only [Act.put, List.setIfInBounds_toArray, List.set_cons_zero, List.set_cons_succ, i64_w, i32_w]
            rfl
          refine take_ (i := 4) (N := some 78) (v := ?_) (a' := ?_) #[true, true, true, true, true, false, false, false, false, false, false, false, false, false, false, false, false, false] rfl rfl (by kernel_rfl) (fun _ _ _ h => h) (Or.inl ⟨by rfl, ?_⟩) hHeld ?_ ?_
          rotate_left
          · rintro w' ⟨hbe, s0, s1, s2, s3, s4, s5, s6⟩
            go_simp
            first | done | with_reducible rfl
          rotate_left
          · simp only [Act.put, List.setIfInBounds_toArray, List.set_cons_zero, List.set_cons_succ, i64_w, i32_w]
            rfl
          refine pure_ (i := 5) (N := some 79) (v := ?_) (a' := ?_) #[true, true, true, true, true, true, false, false, false, false, false, false, false, false, false, false, false, false] rfl rfl (by kernel_rfl) (fun _ _ _ h => h) (Or.inl ⟨by rfl, ?_⟩) ?_ ?_
          rotate_left
          · intro w'
            go_simp
            first | done | with_reducible rfl
          rotate_left
          · simp only [Act.put, List.setIfInBounds_toArray, List.set_cons_zero, List.set_cons_succ, i64_w, i32_w]
            rfl
          refine take_ (i := 6) (N := some 80) (v := ?_) (a' := ?_) #[true, true, true, true, true, true, true, false, false, false, false, false, false, false, false, false, false, false] rfl rfl (by kernel_rfl) (fun _ _ _ h => h) (Or.inl ⟨by rfl, ?_⟩) hHeld ?_ ?_
          rotate_left
          · rintro w' ⟨hbe, s0, s1, s2, s3, s4, s5, s6⟩
            go_simp
            first | done | with_reducible rfl
          rotate_left
          · simp only [Act.put, List.setIfInBounds_toArray, List.set_cons_zero, List.set_cons_succ, i64_w, i32_w]
            rfl
          refine pure_ (i := 7) (N := some 81) (v := ?_) (a' := ?_) #[true, true, true, true, true, true, true, true, false, false, false, false, false, false, false, false, false, false] rfl rfl (by kernel_rfl) (fun _ _ _ h => h) (Or.inl ⟨by rfl, ?_⟩) ?_ ?_
          rotate_left
          · intro w'
            go_simp
            first | done | with_reducible rfl
          rotate_left
          · simp only [Act.put, List.setIfInBounds_toArray, List.set_cons_zero, List.set_cons_succ, i64_w, i32_w]
            rfl
          refine pure_ (i := 8) (N := some 82) (v := ?_) (a' := ?_) #[true, true, true, true, true, true, true, true, true, false, false, false, false, false, false, false, false, false] rfl rfl (by kernel_rfl) (fun _ _ _ h => h) (Or.inl ⟨by rfl, ?_⟩) ?_ ?_
          rotate_left
          · intro w'
            go_simp
            first | done | with_reducible rfl
          rotate_left
          · simp only [Act.put, List.setIfInBounds_toArray, List.set_cons_zero, List.set_cons_succ, i64_w, i32_w]
            rfl
          refine pure_ (i := 9) (N := some 83) (v := ?_) (a' := ?_) #[true, true, true, true, true, true, true, true, true, true, false, false, false, false, false, false, false, false] rfl rfl (by kernel_rfl) (fun _ _ _ h => h) (Or.inl ⟨by rfl, ?_⟩) ?_ ?_
          rotate_left
          · intro w'
            go_simp
            first | done | with_reducible rfl
          rotate_left
          · simp only [Act.put, List.setIfInBounds_toArray, List.set_cons_zero, List.set_cons_succ, i64_w, i32_w]
            rfl
          refine pure_ (i := 10) (N := some 84) (v := ?_) (a' := ?_) #[true, true, true, true, true, true, true, true, true, true, true, false, false, false, false, false, false, false] rfl rfl (by kernel_rfl) (fun _ _ _ h => h) (Or.inl ⟨by rfl, ?_⟩) ?_ ?_
          rotate_left
          · intro w'
            go_simp
            first | done | with_reducible rfl
          rotate_left
          · simp only [Act.put, List.setIfInBounds_toArray, List.set_cons_zero, List.set_cons_succ, i64_w, i32_w]
            rfl
          refine take_ (i := 11) (N := some 85) (v := ?_) (a' := ?_) #[true, true, true, true, true, true, true, true, true, true, true, true, false, false, false, false, false, false] rfl rfl (by kernel_rfl) (fun _ _ _ h => h) (Or.inl ⟨by rfl, ?_⟩) hHeld ?_ ?_
          rotate_left
          · rintro w' ⟨hbe, s0, s1, s2, s3, s4, s5, s6⟩
            go_simp
            first | done | with_reducible rfl
          rotate_left
          · simp only [Act.put, List.setIfInBounds_toArray, List.set_cons_zero, List.set_cons_succ, i64_w, i32_w]
            rfl
          refine pure_ (i := 12) (N := some 86) (v := ?_) (a' := ?_) #[true, true, true, true, true, true, true, true, true, true, true, true, true, false, false, false, false, false] rfl rfl (by kernel_rfl) (fun _ _ _ h => h) (Or.inl ⟨by rfl, ?_⟩) ?_ ?_
          rotate_left
          · intro w'
            go_simp
            first | done | with_reducible rfl
          rotate_left
          · simp only [Act.put, List.setIfInBounds_toArray, List.set_cons_zero, List.set_cons_succ, i64_w, i32_w]
            rfl
          refine one_ (i := 13) (N := some 87) #[true, true, true, true, true, true, true, true, true, true, true, true, true, true, false, false, false, false] rfl rfl (by kernel_rfl) (by decide) (fun K hK => ?_)
          refine value_ (by rfl) rfl (by go_simp; first | rfl | exact ⟨rfl, rfl⟩) ?_
          refine hK.out _ _ (HS.out _ ((Below.refl wr.heap.size wr).alloc (Nat.le_refl _) _).drew) (fun hHeld1 => ?_)
          clear hK K
          refine norm_ (a' := ?_) ?_ ?_
          rotate_left
          · show Act.put _ (some 87) _ = _
            simp only [Act.put, List.setIfInBounds_toArray, List.set_cons_zero, List.set_cons_succ, i64_w, i32_w]
            rfl
          refine tail_list 14 (t := [14, 15, 16, 17]) (fuel := 0) rfl rfl rfl (by kernel_rfl) (by decide) ?_
          have hbr := HTr.out.hB
          have hxl := HPr.out.rl
          rw [HVL.out] at hxl
          refine Kd.R_append kFly (w0 := w1) (W := wr.drew) w1.heap.size rfl _ _ 53 80 (.agg #[.bool false, .int .i64 0, .int .i64 0, .bool false, .int .i64 0, .slice none 0 0]) 64 rfl Tryd.underlying53 infoFly rfl (by decide) (by decide) (.slice Al N cl) (p.l ++ (xs.take i).map (fun x => (true, x))) (true, x) [.bool true, .int .i64 x.f0, .int .i64 x.f1, .bool x.f2, .int .i64 x.f3, .slice A4 x.f4.length c4] (fun k => (Fl k ∨ X k) ∨ wr.heap.size ≤ k) X rfl rfl ?hp ?hokp ?hfresh ?HO ?HB ?hb2 ?hl2 ?hk2
          case hp => exact kFly_mkM _ _ _ _ _ (Kd.R_drew HDX.out)
          case hokp =>
            intro k hk
            have := (HXr.out k hk).2.2.2.2
            rw [HVL.out] at this
            exact ⟨.inl (.inr hk), this⟩
          case hfresh => exact fun k hk => .inr hk
          case HO => exact Kd.R_drew (Kd.R_mono hxl (fun k hk => .inl (.inl hk)))
          case HB => exact hbr.drew
          case hb2 => exact hbr.size
          case hl2 => have := HN2.out; have := HI2.out.2; rw [List.length_append, List.length_map, List.length_take]; omega
          case hk2 =>
            intro v1 w9 hR1 _ hg9 hat9
            have hg9' : wr.grownBy w9 (Value.slice Al N cl).ownBlock := ⟨hg9.os, hg9.tape, hg9.output, hg9.size, hg9.block⟩
            have hown : ∀ k, (Value.slice Al N cl).ownBlock = some k → Fl k := fun k hk => own_ok hxl k hk
            obtain ⟨hp9, hTF, hP9⟩ := HPr.out.putL hbr.size (X := fun k => Fl k ∨ X k) (fun k hk => by
              rcases hk with hk | hk
              · exact HPr.out.fl k hk
              · exact ⟨(HXr.out k hk).1, (HXr.out k hk).2.1, (HXr.out k hk).2.2.1, (HXr.out k hk).2.2.2.1⟩) hR1 hg9' (fun k hk => .inl (hown k hk))
            rw [← take_map_succ _ _ _ _ _ HXX.out] at hP9
            have hlmb := blk_lt HMr.out
            have hm9 : MBox (w9.setCell ⟨pb, 2, none⟩ v1) mb m D dn dc := by
              unfold MBox
              rw [Below.heap_setCell _ _ _ _ (show mb ≠ (⟨pb, 2, none⟩ : Addr).block from HFr.out.2.1)]
              exact (hg9'.block mb hlmb (fun e' => HFr.out.2.2 (hown mb e'.symm))).trans HMr.out
            have hr9 : Kd.R k24 24 (w9.setCell ⟨pb, 2, none⟩ v1) w1.heap.size X (.slice (some ⟨ag, 0, none⟩) L cv) xs :=
              Kd.R_far (Kd.R_step HRr.out (fun k hk hl => hg9'.block k hl (by have := (HXr.out k hk).2.2.2.2; rw [HVL.out] at this; exact this))) (fun k hk => (HXr.out k hk).2.1) _
            obtain ⟨_, _, q2, q3, q4⟩ := cells5 hp9
            rw [HVL.out] at q2
            have hf9 := blk_frozen hp9 2
            have hl9 := blk_lt hp9
            have HP9 := Lib.hid hP9
            have HT9 := Lib.hid (HTr.out.widen hTF (fun i hi => (HPr.out.fb i hi).1))
            have HM9 := Lib.hid (And.intro hm9 hr9)
            have hsz9 := hg9'.size
            have HX9 := Lib.hid (show ∀ k, X k → Since F wr w9 k ∧ k ≠ pb ∧ ¬ Fs k ∧ ¬ Ft k ∧ some k ≠ v1.ownBlock from by
              intro k hk
              have hk0 := HXr.out k hk
              refine ⟨.inl hk0.1, hk0.2.1, hk0.2.2.1, hk0.2.2.2.1, ?_⟩
              rcases hat9 with ha | ⟨b, ha, hb⟩
              · rw [ha]; have := hk0.2.2.2.2; rw [HVL.out] at this; exact this
              · rw [ha]
                intro e'
                obtain rfl := Option.some.inj e'
                have h1 := (HPr.out.fb k hk0.1).2
                have h2 : wr.heap.size ≤ k := hb
                omega)
            have HNM := Lib.hid (show ¬ (((Fl mb ∨ X mb) ∨ wr.heap.size ≤ mb) ∧ mb < w9.heap.size) from by
              rintro ⟨(h' | h') | h', _⟩
              · exact HFr.out.2.2 h'
              · exact HXM.out h'
              · have := blk_lt HMr.out; omega)
            obtain ⟨A1, c1', rfl⟩ := Kd.R_slice hR1
            have hln : (p.l ++ (xs.take i).map (fun x => (true, x)) ++ [(true, x)]).length = N + 1 := by have := HN2.out; rw [List.length_append, List.length_append, List.length_map, List.length_take, ← HL.out]; simp; omega
            rw [hln] at HP9 HT9 HM9 HX9 ⊢
            clear hp9 hTF hP9 hR1 hg9 hat9 hg9' hown hm9 hr9 hHeld hHeld1 p0 p1 p2 p3 p4 m0 m1 m2 m3 hlm hlp x0 x1 x2 x3 x4 hlmb hxl hbr hln
            clear hsz9 d1 d2 hi0 hiL hN3
            go_wp2_with fail
            have ht := HT9.out
            rw [since_set] at ht
            exact ⟨⟨i + 1, _, _, _, by rw [HAR.out.2.2.2], HAR.out.1, HAR.out.2.1, ht, HP9.out, HM9.out.1, ⟨.inl HFr.out.1, HFr.out.2.1, HNM.out⟩, HM9.out.2, HX9.out⟩, ten_less HAR.out.2.2.1 HAR.out.2.2.2⟩
      · have d1 : (i : Int) < (L : Int) → ¬ (N : Int) < 200 := by omega
        have hfin := addL_of p.l true xs i (by rw [← HL.out]; exact hi) h200 (by rw [← HL.out, ← HN2.out]; exact hcont)
        have HFIN := Lib.hid hfin
        clear hfin hcont
        by_cases hiL : i < L
        · have d0 : (i : Int) < (L : Int) := by omega
          have d2 := d1 d0
          clear d1
          go_wp2_with fail
          try simp only [Exit.inBlock, Exit.then]
          first | (refine bodyPost_ret (results_none rfl _ _ _) rfl ?_) | (refine bodyPost_end (results_none rfl _ _ _) rfl ?_)
          refine ⟨⟨_, rfl⟩, ?_⟩
          rw [HPS.out]
          exact ⟨_, HTr.out, _, _, _, _, _, _, _, _, by have h := HPr.out; rw [HFIN.out, HXS.out] at h; exact h⟩
        · have d0 : ¬ (i : Int) < (L : Int) := by omega
          clear d1
          go_wp2_with fail
          try simp only [Exit.inBlock, Exit.then]
          first | (refine bodyPost_ret (results_none rfl _ _ _) rfl ?_) | (refine bodyPost_end (results_none rfl _ _ _) rfl ?_)
          refine ⟨⟨_, rfl⟩, ?_⟩
          rw [HPS.out]
          exact ⟨_, HTr.out, _, _, _, _, _, _, _, _, by have h := HPr.out; rw [HFIN.out, HXS.out] at h; exact h⟩
end Go.Proofs.YthfgkkpibkkiaaaDoor
