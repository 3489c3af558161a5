/- SessionLive's contract. -/
import Derived.Test.YthfgkkpibkkiaaaDoorSessPr
set_option linter.unusedVariables false
set_option linter.unusedSimpArgs false
namespace Go.Proofs.YthfgkkpibkkiaaaDoor
attribute [local go_sem] Go.Proofs.YthfgkkpibkkiaaaDoorW.PrintMore.max_two Go.Proofs.YthfgkkpibkkiaaaDoorW.PrintMore.max2_int
open Go.RowKit Go.Proofs.YthfgkkpibkkiaaaDoorW.PrintWords Go.Proofs.YthfgkkpibkkiaaaDoorW.PrintLast Go.Proofs.YthfgkkpibkkiaaaDoor.PSessionPlays

theorem takes_bound (e : E) (l : List S24) : (takes e l).sent = e.sent ∧ (takes e l).came.length ≤ e.came.length + l.length := by
  unfold takes
  induction l generalizing e with
  | nil => exact ⟨rfl, Nat.le_refl _⟩
  | cons x l ih =>
    have h := ih (takeE e x)
    simp only [List.foldl_cons, List.length_cons]
    refine ⟨h.1.trans take_sent, ?_⟩
    have h2 : (takeE e x).came.length ≤ e.came.length + 1 := by
      unfold takeE
      split
      · show (if _ then _ else _ : List (List Int)).length ≤ _
        split
        · rw [List.length_append, List.length_singleton]; omega
        · omega
      · omega
    have := h.2
    omega
theorem rounds_succ : ∀ (n : Nat) (ab : E × E), rounds_ (n + 1) ab = round_ (rounds_ n ab)
  | 0, _ => rfl
  | n + 1, ab => rounds_succ n (round_ ab)
theorem rounds_val {mx rd : Nat} (h : mx ≤ 64) (hr : rd = (mx + 3) / 4) : wrap64 ((wrap64 (wrap64 ((mx : Int) + 4) - 1)).tdiv 4) = (rd : Int) := by
  have h1 : wrap64 ((mx : Int) + 4) = (mx : Int) + 4 := by unfold wrap64; omega
  have h2 : wrap64 ((mx : Int) + 4 - 1) = (mx : Int) + 3 := by unfold wrap64; omega
  rw [h1, h2, Int.tdiv_eq_ediv_of_nonneg (by omega)]
  unfold wrap64
  omega
theorem lots_less {i : Nat} (h : i < 150) (hw : wrap64 ((i : Int) + 1) = ((i + 1 : Nat) : Int)) : 200 - (intOf (Value.int IntKind.i64 (wrap64 ((i : Int) + 1)))).toNat < 200 - (intOf (Value.int IntKind.i64 (i : Int))).toNat := by
  rw [hw]
  simp [intOf]
  omega
set_option maxRecDepth 100000 in
set_option maxHeartbeats 16000000 in
theorem live_law (w : World) (ep : Int) (we : (Lit.int .i64 ep).wf = true) (xs : List Mv) (A : Option Addr) (n c : Nat) (h : kMvs.K w xs [.slice A n c]) (g : goodMvs xs) (hG : Ground w) :
    Calls Tryd.prog 6 #[.int .i64 ep, .slice A n c] w fun e w' => e = .returned (.bool true) ∧ Below w.heap.size w w' := by
  obtain ⟨hn, hc, hX⟩ := moves_open h
  have HX := Lib.hid hX
  have HN := Lib.hid (And.intro hn hc)
  have HH := Lib.hid (head_any w hG)
  have HG := Lib.hid g
  have hnb : n ≤ 140737488351232 := by have := g.1; omega
  clear h g hG hX hn hc we
  go_enter Tryd.func6, Tryd.ntmps6
  go_wp2_with fail
  refine HH.out.mono ?_
  rintro r w1 ⟨rfl, hB1⟩
  have HB1 := Lib.hid hB1
  clear hB1 HH
  go_wp2_with fail
  refine (new_any ep w1).mono ?_
  rintro r w2 (⟨hep, rfl, hB2⟩ | ⟨hep, g1, rfl, hE, hB2⟩)
  · have HB2 := Lib.hid hB2
    have HEP := Lib.hid hep
    clear hB2 hep
    go_wp2_with fail
    refine (new_any ep w2).mono ?_
    rintro r w3 (⟨hep, rfl, hB3⟩ | ⟨hep, g2, rfl, hE3, hB3⟩)
    rotate_left
    · exact absurd hep (by rw [HEP.out]; simp)
    have HB3 := Lib.hid (HB2.out.trans (hB3.mono HB2.out.size))
    clear hB3 HB2 hep
    go_wp2_with fail
    go_ret
    exact ⟨rfl, HB1.out.trans ((HB3.out.alloc HB3.out.size _).mono HB1.out.size)⟩
  have HEP := Lib.hid hep
  have HE := Lib.hid (And.intro hE hB2)
  clear hE hB2 hep
  go_wp2_with fail
  refine (new_any ep w2).mono ?_
  rintro r w3 (⟨hep, rfl, hB3⟩ | ⟨hep, g2, rfl, hE3, hB3⟩)
  · exact absurd hep (by rw [HEP.out]; simp)
  have hP4 := pair_new HE.out.1 HE.out.2 hE3 hB3
  obtain ⟨w4, hw4⟩ : ∃ w4, w4 = w3.alloc (.cells #[.pointer (some ⟨g1, 0, none⟩), .pointer (some ⟨g2, 0, none⟩), .slice none 0 0, .slice none 0 0, .slice none 0 0] 55) := ⟨_, rfl⟩
  obtain ⟨pb, hpb⟩ : ∃ pb, pb = w3.heap.size := ⟨_, rfl⟩
  rw [← hw4, ← hpb] at hP4
  have HP4 := Lib.hid hP4
  have HW := Lib.hid (And.intro hw4 hpb)
  clear hep hE3 hB3 HE hP4 hw4 hpb
  go_upto_region 3 with (fail)
  rw [← HW.out.1, ← HW.out.2]
  clear HW
  obtain ⟨p0, p1, _⟩ := HP4.out.rows
  go_wp2_with fail
  refine (greatMoves_any A n c xs w4 HN.out.1 hnb (Kd.C_below HX.out (HB1.out.trans (HP4.out.hB.mono HB1.out.size)))).mono ?_
  rintro r w5 ⟨⟨gb, rfl⟩, hB5⟩
  have HP5 := Lib.hid (HP4.out.below hB5)
  clear hB5 HP4 p0 p1
  cases gb with
  | true =>
    go_wp2_with fail
    go_ret
    exact ⟨rfl, HB1.out.trans (HP5.out.hB.mono HB1.out.size)⟩
  | false =>
    go_wp2_with fail
    go_loopw [7] (fun vi wr => ∃ (i : Nat) (p : Pr), vi = .int .i64 (i : Int) ∧ i ≤ n ∧ Inv ep p ∧ Small p ∧ PairAt w1 wr pb g1 g2 p) (fun vi _ => n - (intOf vi).toNat)
    case atStart => exact ⟨0, _, rfl, by omega, Inv.new ep, Small.new ep, HP5.out⟩
    case round =>
      obtain ⟨i, p, rfl, hi, hinv, hsm, hP⟩ := hrel
      have HP := Lib.hid hP
      have HIS := Lib.hid (And.intro hinv hsm)
      clear hP hinv hsm HP5
      by_cases hin : i < n
      · have d1 : (i : Int) < (n : Int) := by omega
        obtain ⟨m, hm⟩ : ∃ x, xs[i]? = some x := ⟨_, List.getElem?_eq_getElem (by have := HN.out.1; omega)⟩
        obtain ⟨ax, D, dc, rfl, x0, x1, x2, x3, x4⟩ := at_mv (Kd.C_below HX.out (HB1.out.trans (HP.out.hB.mono HB1.out.size))) i hin m hm
        obtain ⟨ax', D', dc', hax, y0, y1, y2, y3, y4⟩ := at_mv (Kd.C_below HX.out HB1.out) i hin m hm
        obtain rfl : ax = ax' := Option.some.inj hax
        have hsl : Value.slice D m.data.length dc = Value.slice D' m.data.length dc' := Option.some.inj (x3.symm.trans (HP.out.hB.cell (World.block_lt_of_cell? w1 _ y3) |>.trans y3))
        injection hsl with e1 e2 e3
        subst e1 e3
        have hgm : goodMv m := HG.out.2 m (List.mem_of_getElem? hm)
        have hdl : m.data.length ≤ 140737488351232 := by have := hgm.2.2.2.1; omega
        obtain ⟨dn, hdn⟩ : ∃ d, d = m.data.length := ⟨_, rfl⟩
        rw [← hdn] at x3 y4 hdl
        have hst := step_any w1 wr pb g1 g2 p HP.out (caps_of HIS.out.1 HIS.out.2) m D dn dc y4 hdl
        obtain ⟨p', hp'⟩ : ∃ p', p' = pstep p m := ⟨_, rfl⟩
        rw [← hp'] at hst
        have HST := Lib.hid hst
        have HIS2 := Lib.hid (show Inv ep p' ∧ Small p' from by rw [hp']; exact ⟨HIS.out.1.step m, HIS.out.2.step m⟩)
        clear hst hp' hax y0 y1 y2 y3 y4 x4 hm hgm hdl hdn e2
        go_wp2_with fail
        refine HST.out.mono ?_
        rintro r w6 ⟨⟨v, rfl⟩, hP6⟩
        have HP6 := Lib.hid hP6
        have HCP := Lib.hid (caps_of HIS2.out.1 HIS2.out.2)
        clear hP6 HST HP HIS x0 x1 x2 x3
        go_wp2_with fail
        refine ⟨⟨i + 1, p', by go_num, by omega, HIS2.out.1, HIS2.out.2, HP6.out⟩, by simp [intOf]; omega⟩
      · obtain rfl : n = i := by omega
        have d1 : ¬ (n : Int) < (n : Int) := by omega
        have h64s : p.s.length ≤ 64 := by rw [← HIS.out.1.sa]; exact HIS.out.2.a
        have h64t : p.t.length ≤ 64 := by rw [← HIS.out.1.sb]; exact HIS.out.2.b
        obtain ⟨_, _, As, cs, At, ct, p3, p4, _, _, _, _⟩ := HP.out.rows
        obtain ⟨ns, hns⟩ : ∃ k, k = p.s.length := ⟨_, rfl⟩
        obtain ⟨nt, hnt⟩ : ∃ k, k = p.t.length := ⟨_, rfl⟩
        rw [← hns] at p3 h64s
        rw [← hnt] at p4 h64t
        obtain ⟨mx, hmx⟩ : ∃ k, k = max ns nt := ⟨_, rfl⟩
        have hmi : (if ns < nt then (nt : Int) else (ns : Int)) = (mx : Int) := by split <;> omega
        obtain ⟨rd, hrd⟩ : ∃ k, k = (mx + 3) / 4 := ⟨_, rfl⟩
        have HQ4 := Lib.hid (rounds_val (mx := mx) (rd := rd) (by omega) hrd)
        have HRD := Lib.hid (show p.s.length ≤ 4 * (rd + 1) ∧ p.t.length ≤ 4 * (rd + 1) ∧ rd ≤ 100 from ⟨by omega, by omega, by omega⟩)
        have hmx64 : mx ≤ 64 := by omega
        clear hmx hrd hns hnt h64s h64t
        go_upto_region 9 with (fail)
        refine start_ (S := fun w' => Below wr.heap.size wr w' ∧ w'.cell? ⟨pb, 3, none⟩ = some (.slice As ns cs) ∧ w'.cell? ⟨pb, 4, none⟩ = some (.slice At nt ct)) (ds := [14]) (n := 15) #[false, false, false, false, false, false, false, false, false, false, false, false, false, false, false] rfl rfl rfl ?hS0 (fun hHeld => ?hrun)
        case hS0 => exact ⟨(Below.refl _ _).drew, p3, p4⟩
        case hrun =>
          refine pure_ (i := 0) (N := some 52) (v := ?_) (a' := ?_) #[true, false, false, false, false, false, false, false, false, false, false, false, false, false, false] rfl rfl (by kernel_rfl) (fun _ _ _ h => h) (Or.inl ⟨by rfl, ?_⟩) ?_ ?_
          rotate_left
          · intro w'
            go_simp
            first | done | with_reducible rfl
          rotate_left
          · simp only [Act.put, List.setIfInBounds_toArray, List.set_cons_zero, List.set_cons_succ, i64_w, i32_w]
            rfl
          refine pure_ (i := 1) (N := some 53) (v := ?_) (a' := ?_) #[true, true, false, false, false, false, false, false, false, false, false, false, false, false, false] rfl rfl (by kernel_rfl) (fun _ _ _ h => h) (Or.inl ⟨by rfl, ?_⟩) ?_ ?_
          rotate_left
          · intro w'
            go_simp
            first | done | with_reducible rfl
          rotate_left
          · simp only [Act.put, List.setIfInBounds_toArray, List.set_cons_zero, List.set_cons_succ, i64_w, i32_w]
            rfl
          refine pure_ (i := 2) (N := some 54) (v := ?_) (a' := ?_) #[true, true, true, false, false, false, false, false, false, false, false, false, false, false, false] rfl rfl (by kernel_rfl) (fun _ _ _ h => h) (Or.inl ⟨by rfl, ?_⟩) ?_ ?_
          rotate_left
          · intro w'
            go_simp
            first | done | with_reducible rfl
          rotate_left
          · simp only [Act.put, List.setIfInBounds_toArray, List.set_cons_zero, List.set_cons_succ, i64_w, i32_w]
            rfl
          refine take_ (i := 3) (N := some 55) (v := ?_) (a' := ?_) #[true, true, true, true, false, false, false, false, false, false, false, false, false, false, false] rfl rfl (by kernel_rfl) (fun _ _ _ h => h) (Or.inl ⟨by rfl, ?_⟩) hHeld ?_ ?_
          rotate_left
          · rintro w' ⟨hbe, s0, s1⟩
            go_simp
            first | done | with_reducible rfl
          rotate_left
          · simp only [Act.put, List.setIfInBounds_toArray, List.set_cons_zero, List.set_cons_succ, i64_w, i32_w]
            rfl
          refine pure_ (i := 4) (N := some 56) (v := ?_) (a' := ?_) #[true, true, true, true, true, false, false, false, false, false, false, false, false, false, false] rfl rfl (by kernel_rfl) (fun _ _ _ h => h) (Or.inl ⟨by rfl, ?_⟩) ?_ ?_
          rotate_left
          · intro w'
            go_simp
            first | done | with_reducible rfl
          rotate_left
          · simp only [Act.put, List.setIfInBounds_toArray, List.set_cons_zero, List.set_cons_succ, i64_w, i32_w]
            rfl
          refine pure_ (i := 5) (N := some 57) (v := ?_) (a' := ?_) #[true, true, true, true, true, true, false, false, false, false, false, false, false, false, false] rfl rfl (by kernel_rfl) (fun _ _ _ h => h) (Or.inl ⟨by rfl, ?_⟩) ?_ ?_
          rotate_left
          · intro w'
            go_simp
            first | done | with_reducible rfl
          rotate_left
          · simp only [Act.put, List.setIfInBounds_toArray, List.set_cons_zero, List.set_cons_succ, i64_w, i32_w]
            rfl
          refine pure_ (i := 6) (N := some 58) (v := ?_) (a' := ?_) #[true, true, true, true, true, true, true, false, false, false, false, false, false, false, false] rfl rfl (by kernel_rfl) (fun _ _ _ h => h) (Or.inl ⟨by rfl, ?_⟩) ?_ ?_
          rotate_left
          · intro w'
            go_simp
            first | done | with_reducible rfl
          rotate_left
          · simp only [Act.put, List.setIfInBounds_toArray, List.set_cons_zero, List.set_cons_succ, i64_w, i32_w]
            rfl
          refine pure_ (i := 7) (N := some 59) (v := ?_) (a' := ?_) #[true, true, true, true, true, true, true, true, false, false, false, false, false, false, false] rfl rfl (by kernel_rfl) (fun _ _ _ h => h) (Or.inl ⟨by rfl, ?_⟩) ?_ ?_
          rotate_left
          · intro w'
            go_simp
            first | done | with_reducible rfl
          rotate_left
          · simp only [Act.put, List.setIfInBounds_toArray, List.set_cons_zero, List.set_cons_succ, i64_w, i32_w]
            rfl
          refine take_ (i := 8) (N := some 60) (v := ?_) (a' := ?_) #[true, true, true, true, true, true, true, true, true, false, false, false, false, false, false] rfl rfl (by kernel_rfl) (fun _ _ _ h => h) (Or.inl ⟨by rfl, ?_⟩) hHeld ?_ ?_
          rotate_left
          · rintro w' ⟨hbe, s0, s1⟩
            go_simp
            first | done | with_reducible rfl
          rotate_left
          · simp only [Act.put, List.setIfInBounds_toArray, List.set_cons_zero, List.set_cons_succ, i64_w, i32_w]
            rfl
          refine pure_ (i := 9) (N := some 61) (v := ?_) (a' := ?_) #[true, true, true, true, true, true, true, true, true, true, false, false, false, false, false] rfl rfl (by kernel_rfl) (fun _ _ _ h => h) (Or.inl ⟨by rfl, ?_⟩) ?_ ?_
          rotate_left
          · intro w'
            go_simp
            first | done | with_reducible rfl
          rotate_left
          · simp only [Act.put, List.setIfInBounds_toArray, List.set_cons_zero, List.set_cons_succ, i64_w, i32_w]
            rfl
          refine pure_ (i := 10) (N := some 62) (v := ?_) (a' := ?_) #[true, true, true, true, true, true, true, true, true, true, true, false, false, false, false] rfl rfl (by kernel_rfl) (fun _ _ _ h => h) (Or.inl ⟨by rfl, ?_⟩) ?_ ?_
          rotate_left
          · intro w'
            go_simp
            with_reducible rfl
          rotate_left
          · simp only [Act.put, List.setIfInBounds_toArray, List.set_cons_zero, List.set_cons_succ, i64_w, i32_w]
            rfl
          refine pure_ (i := 11) (N := some 63) (v := ?_) (a' := ?_) #[true, true, true, true, true, true, true, true, true, true, true, true, false, false, false] rfl rfl (by kernel_rfl) (fun _ _ _ h => h) (Or.inl ⟨by rfl, ?_⟩) ?_ ?_
          rotate_left
          · intro w'
            go_simp
            with_reducible rfl
          rotate_left
          · simp only [Act.put, List.setIfInBounds_toArray, List.set_cons_zero, List.set_cons_succ, i64_w, i32_w]
            rfl
          refine pure_ (i := 12) (N := some 64) (v := ?_) (a' := ?_) #[true, true, true, true, true, true, true, true, true, true, true, true, true, false, false] rfl rfl (by kernel_rfl) (fun _ _ _ h => h) (Or.inl ⟨by rfl, ?_⟩) ?_ ?_
          rotate_left
          · intro w'
            go_simp
            with_reducible rfl
          rotate_left
          · simp only [Act.put, List.setIfInBounds_toArray, List.set_cons_zero, List.set_cons_succ, i64_w, i32_w]
            rfl
          refine pure_ (i := 13) (N := some 65) (v := ?_) (a' := ?_) #[true, true, true, true, true, true, true, true, true, true, true, true, true, true, false] rfl rfl (by kernel_rfl) (fun _ _ _ h => h) (Or.inl ⟨by rfl, ?_⟩) ?_ ?_
          rotate_left
          · intro w'
            go_simp
            with_reducible rfl
          rotate_left
          · simp only [Act.put, List.setIfInBounds_toArray, List.set_cons_zero, List.set_cons_succ, i64_w, i32_w]
            rfl
          refine tail_list 14 (t := [14]) (fuel := 0) rfl rfl rfl (by kernel_rfl) (by decide) ?_
          have hwd : Below wr.heap.size wr wr.drew := (Below.refl _ _).drew
          have HP0 := Lib.hid (HP.out.below hwd)
          clear hwd hHeld p3 p4 HP d1 hmi hi
          rw [HQ4.out]
          go_wp2_with fail
          go_loopw [9] (fun vi wq => ∃ i : Nat, vi = .int .i64 (i : Int) ∧ i ≤ rd + 1 ∧ PairAt w1 wq pb g1 g2 { p with a := (rounds_ i (p.a, p.b)).1, b := (rounds_ i (p.a, p.b)).2 }) (fun vi _ => 200 - (intOf vi).toNat)
          case atStart => exact ⟨0, rfl, by omega, HP0.out⟩
          case round =>
            obtain ⟨i, rfl, hi, hP⟩ := hrel
            clear HP0
            obtain ⟨ab, hab⟩ : ∃ ab, ab = rounds_ i (p.a, p.b) := ⟨_, rfl⟩
            rw [← hab] at hP
            have htwo : Two_ ep p.s p.t ab i := by
              have h := (HIS.out.1.two HEP.out HIS.out.2.a HIS.out.2.b HIS.out.2.az HIS.out.2.bz).rounds i
              rw [← hab, Nat.zero_add] at h
              exact h
            obtain ⟨a, b⟩ := ab
            have HTW := Lib.hid htwo
            have HAB := Lib.hid hab
            have h64s : p.s.length ≤ 64 := by rw [← HIS.out.1.sa]; exact HIS.out.2.a
            have h64t : p.t.length ≤ 64 := by rw [← HIS.out.1.sb]; exact HIS.out.2.b
            have CA := Lib.hid (show a.came.length ≤ 64 ∧ a.sent.length ≤ 64 from ⟨by have := htwo.la; simp only at this; omega, htwo.ga.s⟩)
            have CB := Lib.hid (show b.came.length ≤ 64 ∧ b.sent.length ≤ 64 from ⟨by have := htwo.lb; simp only at this; omega, htwo.gb.s⟩)
            have TA2 := Lib.hid (show ∀ l ∈ a.sent, l.length ≤ 32768 from htwo.ga.big)
            have TA := Lib.hid (show a.came.length ≤ 1000000 ∧ a.sent.length ≤ 64 ∧ a.there ≤ 1000000 ∧ ∀ l ∈ a.sent, l.length ≤ 140737488351232 from ⟨by have := CA.out; omega, htwo.ga.s, by have h1 := htwo.ta; have := CB.out; simp only at h1; omega, fun l hl => by have := TA2.out l hl; omega⟩)
            obtain ⟨F, hT, vl, vs, vt, Fl, Fs, Ft, us, ut, hPr⟩ := hP
            have HT0 := Lib.hid (show TwoF 77 w1 wr F g1 g2 a b from hT)
            have HP0 := Lib.hid (show PairRows w1 wr F pb g1 g2 p.l p.s p.t vl vs vt Fl Fs Ft us ut from hPr)
            clear hT hPr htwo hab
            by_cases hird : i ≤ rd
            · have d0 : (i : Int) ≤ (rd : Int) := by omega
              have HI := Lib.hid (show i + 1 ≤ rd + 1 ∧ i < 150 ∧ wrap64 ((i : Int) + 1) = ((i + 1 : Nat) : Int) from ⟨by omega, by have := HRD.out.2.2; omega, wrap_succ (by have := HRD.out.2.2; omega)⟩)
              have HTW2 := Lib.hid HTW.out.round
              clear hi hird h64s h64t
              obtain ⟨p0, p1, p2, p3, p4⟩ := HP0.out.cells
              have hlp := blk_lt HP0.out.blk
              go_wp2_with fail
              refine ((HT0.out).look (fun S h => tick_any _ w1.heap.size g1 S a h TA.out.1 (by have := TA.out.2.1; omega) TA.out.2.2.1 TA.out.2.2.2)).mono ?_
              rintro r w11 ⟨v, rfl, hR, hB1⟩
              have HT1 := Lib.hid (HT0.out.keep hB1)
              have HP1 := Lib.hid (HP0.out.wide hB1 HT0.out.hB.size)
              obtain ⟨X1, hX1⟩ : ∃ X : Nat → Prop, X = fun k => wr.heap.size ≤ k ∧ k < w11.heap.size := ⟨_, rfl⟩
              obtain ⟨F1, hF1⟩ : ∃ FF, FF = Since F wr w11 := ⟨_, rfl⟩
              obtain ⟨xs1, hxs1⟩ : ∃ x, x = tickE a := ⟨_, rfl⟩
              rw [← hxs1] at hR
              have HXS1 := Lib.hid hxs1
              have HR1 := Lib.hid (show Kd.R k24 24 w11 w1.heap.size X1 v xs1 from by rw [hX1]; exact Kd.R_lower (Kd.R_mono (Kd.R_bound hR) (fun k hk => ⟨hk.2.1, hk.2.2.1⟩)) HT0.out.hB.size)
              have HXF1 := Lib.hid (show ∀ k, X1 k → F1 k from fun k hk => by rw [hX1] at hk; rw [hF1]; exact .inr hk)
              have hL1 : xs1.length ≤ 4 := by rw [hxs1]; exact tick_le4 _
              rw [← hF1] at HT1 HP1
              obtain ⟨Av1, cv1, rfl⟩ := Kd.R_slice hR
              obtain ⟨L1, hLL1⟩ : ∃ L, L = xs1.length := ⟨_, rfl⟩
              rw [← hLL1] at HR1 hL1 ⊢
              have HL1 := Lib.hid hLL1
              clear hR hB1 hX1 hF1 hxs1 hLL1 p0 p1 p2 p3 p4 hlp
              go_wp2_with fail
              go_loopw [11] (fun vk wq => ∃ k : Nat, vk = .int .i64 (k : Int) ∧ k ≤ L1 ∧ TwoF 77 w1 wq F1 g1 g2 a (takes b (xs1.take k)) ∧ PairRows w1 wq F1 pb g1 g2 p.l p.s p.t vl vs vt Fl Fs Ft us ut ∧ Kd.R k24 24 wq w1.heap.size X1 (.slice Av1 L1 cv1) xs1) (fun vk _ => 10 - (intOf vk).toNat)
              case atStart => exact ⟨0, rfl, by omega, HT1.out, HP1.out, HR1.out⟩
              case round =>
                obtain ⟨k, rfl, hk, hTq, hPq, hRq⟩ := hrel
                have HTq := Lib.hid hTq
                have HPq := Lib.hid hPq
                have HRq := Lib.hid hRq
                clear hTq hPq hRq HT1 HP1 HR1
                by_cases hkL : k < L1
                · have d1 : (k : Int) < (L1 : Int) := by omega
                  have HAR := Lib.hid (show k + 1 ≤ L1 ∧ k < 10 ∧ wrap64 ((k : Int) + 1) = ((k + 1 : Nat) : Int) from ⟨by omega, by omega, wrap_succ (by omega)⟩)
                  obtain ⟨x, hx⟩ : ∃ x, xs1[k]? = some x := ⟨_, List.getElem?_eq_getElem (by rw [← HL1.out]; exact hkL)⟩
                  obtain ⟨Av, cv, hAv, hcv, hCv⟩ := Kd.R_reads HRq.out
                  injection hAv with hA1 hA2 hA3
                  rw [← hA1, ← HL1.out] at hCv
                  obtain ⟨ad, A4, c4, hAd, x0, x1, x2, x3, x4, x5, x6⟩ := atN_24 hCv k hkL x hx
                  obtain ⟨n4, hn4⟩ : ∃ q, q = x.f4.length := ⟨_, rfl⟩
                  rw [← hn4] at x4 x5 x6
                  have HDC := Lib.hid (And.intro hn4.symm (And.intro x5 x6))
                  have hbig : n4 ≤ 140737488351232 := by
                    have := tick_small_f TA2.out x (by rw [← HXS1.out]; exact List.mem_of_getElem? hx)
                    omega
                  have hcr := takes_bound b (xs1.take k)
                  have hcl : (xs1.take k).length = k := by rw [List.length_take, ← HL1.out]; omega
                  have hcb : (takes b (xs1.take k)).came.length ≤ 1000000 := by have := hcr.2; have := CB.out; omega
                  have hsb : (takes b (xs1.take k)).sent.length ≤ 1000000 := by rw [hcr.1]; have := CB.out; omega
                  have HTKE := Lib.hid (show takes b (xs1.take (k + 1)) = takeE (takes b (xs1.take k)) x from by rw [List.take_add_one, hx]; unfold takes; rw [List.foldl_append]; rfl)
                  have htk := ((HTq.out.below ((Below.refl wr.heap.size wr).drew)).swap.step (fun S h => take_any wr.drew w1.heap.size g2 S _ h hcb hsb x A4 n4 c4 HDC.out.1 (Kd.C_below HDC.out.2.2 ((Below.refl _ _).drew)) HDC.out.2.1 hbig))
                  rw [← HTKE.out] at htk
                  have HTK := Lib.hid htk
                  obtain ⟨p0, p1, p2, p3, p4⟩ := HPq.out.cells
                  have hlp := blk_lt HPq.out.blk
                  have hk0 : (0 : Int) ≤ (k : Int) := by omega
                  obtain rfl : Av1 = some ad := hAd
                  have HS := Lib.hid (fun (w' : World) (h : Below wr.heap.size wr w') => (⟨h, pw_cell_below h p1, pw_cell_below h x0, pw_cell_below h x1, pw_cell_below h x2, pw_cell_below h x3, pw_cell_below h x4⟩ : Below wr.heap.size wr w' ∧ w'.cell? ⟨pb, 1, none⟩ = some (.pointer (some ⟨g2, 0, none⟩)) ∧ w'.cell? (ad.add (k * 5)) = some (.int .i64 x.f0) ∧ w'.cell? ⟨(ad.add (k * 5)).block, (ad.add (k * 5)).off + 1, none⟩ = some (.int .i64 x.f1) ∧ w'.cell? ⟨(ad.add (k * 5)).block, (ad.add (k * 5)).off + 2, none⟩ = some (.bool x.f2) ∧ w'.cell? ⟨(ad.add (k * 5)).block, (ad.add (k * 5)).off + 3, none⟩ = some (.int .i64 x.f3) ∧ w'.cell? ⟨(ad.add (k * 5)).block, (ad.add (k * 5)).off + 4, none⟩ = some (.slice A4 n4 c4)))
                  clear htk hcr hcl hcb hsb hbig hx hn4 hA1 hA2 hA3 hCv hcv x5 x6
                  go_upto_region 17 with (fail)
                  refine start_ (S := fun w' => Below wr.heap.size wr w' ∧ w'.cell? ⟨pb, 1, none⟩ = some (.pointer (some ⟨g2, 0, none⟩)) ∧ w'.cell? (ad.add (k * 5)) = some (.int .i64 x.f0) ∧ w'.cell? ⟨(ad.add (k * 5)).block, (ad.add (k * 5)).off + 1, none⟩ = some (.int .i64 x.f1) ∧ w'.cell? ⟨(ad.add (k * 5)).block, (ad.add (k * 5)).off + 2, none⟩ = some (.bool x.f2) ∧ w'.cell? ⟨(ad.add (k * 5)).block, (ad.add (k * 5)).off + 3, none⟩ = some (.int .i64 x.f3) ∧ w'.cell? ⟨(ad.add (k * 5)).block, (ad.add (k * 5)).off + 4, none⟩ = some (.slice A4 n4 c4)) (ds := [8]) (n := 9) #[false, false, false, false, false, false, false, false, false] rfl rfl rfl ?hS0 (fun hHeld => ?hrun)
                  case hS0 => exact HS.out _ (Below.refl _ _).drew
                  case hrun =>
                    refine pure_ (i := 0) (N := some 82) (v := ?_) (a' := ?_) #[true, false, false, false, false, false, false, false, false] rfl rfl (by kernel_rfl) (fun _ _ _ h => h) (Or.inl ⟨by rfl, ?_⟩) ?_ ?_
                    rotate_left
                    · intro w'
                      go_simp
                      first | done | with_reducible rfl
                    rotate_left
                    · simp only [Act.put, List.setIfInBounds_toArray, List.set_cons_zero, List.set_cons_succ, i64_w, i32_w]
                      rfl
                    refine pure_ (i := 1) (N := some 83) (v := ?_) (a' := ?_) #[true, true, false, false, false, false, false, false, false] rfl rfl (by kernel_rfl) (fun _ _ _ h => h) (Or.inl ⟨by rfl, ?_⟩) ?_ ?_
                    rotate_left
                    · intro w'
                      go_simp
                      first | done | with_reducible rfl
                    rotate_left
                    · simp only [Act.put, List.setIfInBounds_toArray, List.set_cons_zero, List.set_cons_succ, i64_w, i32_w]
                      rfl
                    refine pure_ (i := 2) (N := some 84) (v := ?_) (a' := ?_) #[true, true, true, false, false, false, false, false, false] rfl rfl (by kernel_rfl) (fun _ _ _ h => h) (Or.inl ⟨by rfl, ?_⟩) ?_ ?_
                    rotate_left
                    · intro w'
                      go_simp
                      first | done | with_reducible rfl
                    rotate_left
                    · simp only [Act.put, List.setIfInBounds_toArray, List.set_cons_zero, List.set_cons_succ, i64_w, i32_w]
                      rfl
                    refine take_ (i := 3) (N := some 85) (v := ?_) (a' := ?_) #[true, true, true, true, false, false, false, false, false] rfl rfl (by kernel_rfl) (fun _ _ _ h => h) (Or.inl ⟨by rfl, ?_⟩) hHeld ?_ ?_
                    rotate_left
                    · rintro w' ⟨hbe, s0, s1, s2, s3, s4, s5⟩
                      go_simp
                      first | done | with_reducible rfl
                    rotate_left
                    · simp only [Act.put, List.setIfInBounds_toArray, List.set_cons_zero, List.set_cons_succ, i64_w, i32_w]
                      rfl
                    refine pure_ (i := 4) (N := some 86) (v := ?_) (a' := ?_) #[true, true, true, true, true, false, false, false, false] rfl rfl (by kernel_rfl) (fun _ _ _ h => h) (Or.inl ⟨by rfl, ?_⟩) ?_ ?_
                    rotate_left
                    · intro w'
                      go_simp
                      first | done | with_reducible rfl
                    rotate_left
                    · simp only [Act.put, List.setIfInBounds_toArray, List.set_cons_zero, List.set_cons_succ, i64_w, i32_w]
                      rfl
                    refine pure_ (i := 5) (N := some 87) (v := ?_) (a' := ?_) #[true, true, true, true, true, true, false, false, false] rfl rfl (by kernel_rfl) (fun _ _ _ h => h) (Or.inl ⟨by rfl, ?_⟩) ?_ ?_
                    rotate_left
                    · intro w'
                      go_simp
                      first | done | with_reducible rfl
                    rotate_left
                    · simp only [Act.put, List.setIfInBounds_toArray, List.set_cons_zero, List.set_cons_succ, i64_w, i32_w]
                      rfl
                    refine pure_ (i := 6) (N := some 88) (v := ?_) (a' := ?_) #[true, true, true, true, true, true, true, false, false] rfl rfl (by kernel_rfl) (fun _ _ _ h => h) (Or.inl ⟨by rfl, ?_⟩) ?_ ?_
                    rotate_left
                    · intro w'
                      go_simp
                      first | done | with_reducible rfl
                    rotate_left
                    · simp only [Act.put, List.setIfInBounds_toArray, List.set_cons_zero, List.set_cons_succ, i64_w, i32_w]
                      rfl
                    refine take_ (i := 7) (N := some 89) (v := ?_) (a' := ?_) #[true, true, true, true, true, true, true, true, false] rfl rfl (by kernel_rfl) (fun _ _ _ h => h) (Or.inl ⟨by rfl, ?_⟩) hHeld ?_ ?_
                    rotate_left
                    · rintro w' ⟨hbe, s0, s1, s2, s3, s4, s5⟩
                      go_simp
                      first | done | with_reducible rfl
                    rotate_left
                    · simp only [Act.put, List.setIfInBounds_toArray, List.set_cons_zero, List.set_cons_succ, i64_w, i32_w]
                      rfl
                    refine tail_list 8 (t := [8]) (fuel := 0) rfl rfl rfl (by kernel_rfl) (by decide) ?_
                    clear hHeld p0 p1 p2 p3 p4 hlp x0 x1 x2 x3 x4 d1 hk0
                    go_wp2_with fail
                    refine HTK.out.mono ?_
                    rintro r w9 ⟨rfl, hT9, hTu⟩
                    have HT9 := Lib.hid hT9.swap
                    have HP9 := Lib.hid ((HPq.out.below ((Below.refl wr.heap.size wr).drew)).step hTu (fun i hi => hi.2))
                    have HR9 := Lib.hid (Kd.R_step (Kd.R_drew HRq.out) (fun q hq hl => hTu.block q hl (fun h' => h'.2 (HXF1.out q hq))))
                    clear hT9 hTu HTK HTq HPq HRq hk hkL
                    go_wp2_with fail
                    exact ⟨⟨k + 1, by rw [HAR.out.2.2], HAR.out.1, HT9.out, HP9.out, HR9.out⟩, ten_less HAR.out.2.1 HAR.out.2.2⟩
                · have hkk : k = L1 := by omega
                  subst hkk
                  have d1 : ¬ (k : Int) < (k : Int) := by omega
                  have hall : xs1.take k = xs1 := List.take_of_length_le (by rw [← HL1.out]; omega)
                  have HT1e := Lib.hid HTq.out
                  have HP1e := Lib.hid HPq.out
                  rw [hall] at HT1e
                  clear hall HTq HPq HRq hkL hk
                  clear d0
                  obtain ⟨b1, hb1⟩ : ∃ b1, b1 = takes b (tickE a) := ⟨_, rfl⟩
                  rw [HXS1.out, ← hb1] at HT1e
                  have HB1' := Lib.hid hb1
                  have TB2 := Lib.hid (show ∀ l ∈ b1.sent, l.length ≤ 32768 from by rw [hb1]; exact HTW2.out.gb.big)
                  have TB := Lib.hid (show b1.came.length ≤ 1000000 ∧ b1.sent.length ≤ 64 ∧ b1.there ≤ 1000000 ∧ ∀ l ∈ b1.sent, l.length ≤ 140737488351232 from by
                    have h64s : p.s.length ≤ 64 := by rw [← HIS.out.1.sa]; exact HIS.out.2.a
                    have h64t : p.t.length ≤ 64 := by rw [← HIS.out.1.sb]; exact HIS.out.2.b
                    have h1 : b1.came.length ≤ p.s.length := by rw [hb1]; exact HTW2.out.lb
                    have h2 : b1.there ≤ (round_ (a, b)).1.came.length := by rw [hb1]; exact HTW2.out.tb
                    have h3 := HTW2.out.la
                    exact ⟨by omega, by rw [hb1]; exact HTW2.out.gb.s, by omega, fun l hl => by have := TB2.out l hl; omega⟩)
                  clear hb1
                  obtain ⟨p0, p1, p2, p3, p4⟩ := HP1e.out.cells
                  have hlp := blk_lt HP1e.out.blk
                  go_wp2_with fail
                  refine ((HT1e.out.swap).look (fun S h => tick_any _ w1.heap.size g2 S b1 h TB.out.1 (by have := TB.out.2.1; omega) TB.out.2.2.1 TB.out.2.2.2)).mono ?_
                  rintro r w21 ⟨v, rfl, hR, hB2⟩
                  have HT2 := Lib.hid (HT1e.out.keep hB2)
                  have HP2 := Lib.hid (HP1e.out.wide hB2 HT1e.out.hB.size)
                  obtain ⟨X2, hX2⟩ : ∃ X : Nat → Prop, X = fun k => wr.heap.size ≤ k ∧ k < w21.heap.size := ⟨_, rfl⟩
                  obtain ⟨F2, hF2⟩ : ∃ FF, FF = Since F1 wr w21 := ⟨_, rfl⟩
                  obtain ⟨xs2, hxs2⟩ : ∃ x, x = tickE b1 := ⟨_, rfl⟩
                  rw [← hxs2] at hR
                  have HXS2 := Lib.hid hxs2
                  have HR2 := Lib.hid (show Kd.R k24 24 w21 w1.heap.size X2 v xs2 from by rw [hX2]; exact Kd.R_lower (Kd.R_mono (Kd.R_bound hR) (fun k hk => ⟨hk.2.1, hk.2.2.1⟩)) HT1e.out.hB.size)
                  have HXF2 := Lib.hid (show ∀ k, X2 k → F2 k from fun k hk => by rw [hX2] at hk; rw [hF2]; exact .inr hk)
                  have hL2 : xs2.length ≤ 4 := by rw [hxs2]; exact tick_le4 _
                  rw [← hF2] at HT2 HP2
                  obtain ⟨Av2, cv2, rfl⟩ := Kd.R_slice hR
                  obtain ⟨L2, hLL2⟩ : ∃ L, L = xs2.length := ⟨_, rfl⟩
                  rw [← hLL2] at HR2 hL2 ⊢
                  have HL2 := Lib.hid hLL2
                  clear hR hB2 hX2 hF2 hxs2 hLL2 p0 p1 p2 p3 p4 hlp
                  go_wp2_with fail
                  go_loopw [13] (fun vk wq => ∃ k : Nat, vk = .int .i64 (k : Int) ∧ k ≤ L2 ∧ TwoF 77 w1 wq F2 g1 g2 (takes a (xs2.take k)) b1 ∧ PairRows w1 wq F2 pb g1 g2 p.l p.s p.t vl vs vt Fl Fs Ft us ut ∧ Kd.R k24 24 wq w1.heap.size X2 (.slice Av2 L2 cv2) xs2) (fun vk _ => 10 - (intOf vk).toNat)
                  case atStart => exact ⟨0, rfl, by omega, HT2.out, HP2.out, HR2.out⟩
                  case round =>
                    obtain ⟨k, rfl, hk, hTq, hPq, hRq⟩ := hrel
                    have HTq := Lib.hid hTq
                    have HPq := Lib.hid hPq
                    have HRq := Lib.hid hRq
                    clear hTq hPq hRq HT2 HP2 HR2
                    by_cases hkL : k < L2
                    · have d1 : (k : Int) < (L2 : Int) := by omega
                      have HAR := Lib.hid (show k + 1 ≤ L2 ∧ k < 10 ∧ wrap64 ((k : Int) + 1) = ((k + 1 : Nat) : Int) from ⟨by omega, by omega, wrap_succ (by omega)⟩)
                      obtain ⟨x, hx⟩ : ∃ x, xs2[k]? = some x := ⟨_, List.getElem?_eq_getElem (by rw [← HL2.out]; exact hkL)⟩
                      obtain ⟨Av, cv, hAv, hcv, hCv⟩ := Kd.R_reads HRq.out
                      injection hAv with hA1 hA2 hA3
                      rw [← hA1, ← HL2.out] at hCv
                      obtain ⟨ad, A4, c4, hAd, x0, x1, x2, x3, x4, x5, x6⟩ := atN_24 hCv k hkL x hx
                      obtain ⟨n4, hn4⟩ : ∃ q, q = x.f4.length := ⟨_, rfl⟩
                      rw [← hn4] at x4 x5 x6
                      have HDC := Lib.hid (And.intro hn4.symm (And.intro x5 x6))
                      have hbig : n4 ≤ 140737488351232 := by
                        have := tick_small_f TB2.out x (by rw [← HXS2.out]; exact List.mem_of_getElem? hx)
                        omega
                      have hcr := takes_bound a (xs2.take k)
                      have hcl : (xs2.take k).length = k := by rw [List.length_take, ← HL2.out]; omega
                      have hcb : (takes a (xs2.take k)).came.length ≤ 1000000 := by have := hcr.2; have := CA.out; omega
                      have hsb : (takes a (xs2.take k)).sent.length ≤ 1000000 := by rw [hcr.1]; have := CA.out; omega
                      have HTKE := Lib.hid (show takes a (xs2.take (k + 1)) = takeE (takes a (xs2.take k)) x from by rw [List.take_add_one, hx]; unfold takes; rw [List.foldl_append]; rfl)
                      have htk := ((HTq.out.below ((Below.refl wr.heap.size wr).drew)).step (fun S h => take_any wr.drew w1.heap.size g1 S _ h hcb hsb x A4 n4 c4 HDC.out.1 (Kd.C_below HDC.out.2.2 ((Below.refl _ _).drew)) HDC.out.2.1 hbig))
                      rw [← HTKE.out] at htk
                      have HTK := Lib.hid htk
                      obtain ⟨p0, p1, p2, p3, p4⟩ := HPq.out.cells
                      have hlp := blk_lt HPq.out.blk
                      have hk0 : (0 : Int) ≤ (k : Int) := by omega
                      obtain rfl : Av2 = some ad := hAd
                      have HS := Lib.hid (fun (w' : World) (h : Below wr.heap.size wr w') => (⟨h, pw_cell_below h p0, pw_cell_below h x0, pw_cell_below h x1, pw_cell_below h x2, pw_cell_below h x3, pw_cell_below h x4⟩ : Below wr.heap.size wr w' ∧ w'.cell? ⟨pb, 0, none⟩ = some (.pointer (some ⟨g1, 0, none⟩)) ∧ w'.cell? (ad.add (k * 5)) = some (.int .i64 x.f0) ∧ w'.cell? ⟨(ad.add (k * 5)).block, (ad.add (k * 5)).off + 1, none⟩ = some (.int .i64 x.f1) ∧ w'.cell? ⟨(ad.add (k * 5)).block, (ad.add (k * 5)).off + 2, none⟩ = some (.bool x.f2) ∧ w'.cell? ⟨(ad.add (k * 5)).block, (ad.add (k * 5)).off + 3, none⟩ = some (.int .i64 x.f3) ∧ w'.cell? ⟨(ad.add (k * 5)).block, (ad.add (k * 5)).off + 4, none⟩ = some (.slice A4 n4 c4)))
                      clear htk hcr hcl hcb hsb hbig hx hn4 hA1 hA2 hA3 hCv hcv x5 x6
                      go_upto_region 22 with (fail)
                      refine start_ (S := fun w' => Below wr.heap.size wr w' ∧ w'.cell? ⟨pb, 0, none⟩ = some (.pointer (some ⟨g1, 0, none⟩)) ∧ w'.cell? (ad.add (k * 5)) = some (.int .i64 x.f0) ∧ w'.cell? ⟨(ad.add (k * 5)).block, (ad.add (k * 5)).off + 1, none⟩ = some (.int .i64 x.f1) ∧ w'.cell? ⟨(ad.add (k * 5)).block, (ad.add (k * 5)).off + 2, none⟩ = some (.bool x.f2) ∧ w'.cell? ⟨(ad.add (k * 5)).block, (ad.add (k * 5)).off + 3, none⟩ = some (.int .i64 x.f3) ∧ w'.cell? ⟨(ad.add (k * 5)).block, (ad.add (k * 5)).off + 4, none⟩ = some (.slice A4 n4 c4)) (ds := [8]) (n := 9) #[false, false, false, false, false, false, false, false, false] rfl rfl rfl ?hS0 (fun hHeld => ?hrun)
                      case hS0 => exact HS.out _ (Below.refl _ _).drew
                      case hrun =>
                        refine pure_ (i := 0) (N := some 102) (v := ?_) (a' := ?_) #[true, false, false, false, false, false, false, false, false] rfl rfl (by kernel_rfl) (fun _ _ _ h => h) (Or.inl ⟨by rfl, ?_⟩) ?_ ?_
                        rotate_left
                        · intro w'
                          go_simp
                          first | done | with_reducible rfl
                        rotate_left
                        · simp only [Act.put, List.setIfInBounds_toArray, List.set_cons_zero, List.set_cons_succ, i64_w, i32_w]
                          rfl
                        refine pure_ (i := 1) (N := some 103) (v := ?_) (a' := ?_) #[true, true, false, false, false, false, false, false, false] rfl rfl (by kernel_rfl) (fun _ _ _ h => h) (Or.inl ⟨by rfl, ?_⟩) ?_ ?_
                        rotate_left
                        · intro w'
                          go_simp
                          first | done | with_reducible rfl
                        rotate_left
                        · simp only [Act.put, List.setIfInBounds_toArray, List.set_cons_zero, List.set_cons_succ, i64_w, i32_w]
                          rfl
                        refine pure_ (i := 2) (N := some 104) (v := ?_) (a' := ?_) #[true, true, true, false, false, false, false, false, false] rfl rfl (by kernel_rfl) (fun _ _ _ h => h) (Or.inl ⟨by rfl, ?_⟩) ?_ ?_
                        rotate_left
                        · intro w'
                          go_simp
                          first | done | with_reducible rfl
                        rotate_left
                        · simp only [Act.put, List.setIfInBounds_toArray, List.set_cons_zero, List.set_cons_succ, i64_w, i32_w]
                          rfl
                        refine take_ (i := 3) (N := some 105) (v := ?_) (a' := ?_) #[true, true, true, true, false, false, false, false, false] rfl rfl (by kernel_rfl) (fun _ _ _ h => h) (Or.inl ⟨by rfl, ?_⟩) hHeld ?_ ?_
                        rotate_left
                        · rintro w' ⟨hbe, s0, s1, s2, s3, s4, s5⟩
                          go_simp
                          first | done | with_reducible rfl
                        rotate_left
                        · simp only [Act.put, List.setIfInBounds_toArray, List.set_cons_zero, List.set_cons_succ, i64_w, i32_w]
                          rfl
                        refine pure_ (i := 4) (N := some 106) (v := ?_) (a' := ?_) #[true, true, true, true, true, false, false, false, false] rfl rfl (by kernel_rfl) (fun _ _ _ h => h) (Or.inl ⟨by rfl, ?_⟩) ?_ ?_
                        rotate_left
                        · intro w'
                          go_simp
                          first | done | with_reducible rfl
                        rotate_left
                        · simp only [Act.put, List.setIfInBounds_toArray, List.set_cons_zero, List.set_cons_succ, i64_w, i32_w]
                          rfl
                        refine pure_ (i := 5) (N := some 107) (v := ?_) (a' := ?_) #[true, true, true, true, true, true, false, false, false] rfl rfl (by kernel_rfl) (fun _ _ _ h => h) (Or.inl ⟨by rfl, ?_⟩) ?_ ?_
                        rotate_left
                        · intro w'
                          go_simp
                          first | done | with_reducible rfl
                        rotate_left
                        · simp only [Act.put, List.setIfInBounds_toArray, List.set_cons_zero, List.set_cons_succ, i64_w, i32_w]
                          rfl
                        refine pure_ (i := 6) (N := some 108) (v := ?_) (a' := ?_) #[true, true, true, true, true, true, true, false, false] rfl rfl (by kernel_rfl) (fun _ _ _ h => h) (Or.inl ⟨by rfl, ?_⟩) ?_ ?_
                        rotate_left
                        · intro w'
                          go_simp
                          first | done | with_reducible rfl
                        rotate_left
                        · simp only [Act.put, List.setIfInBounds_toArray, List.set_cons_zero, List.set_cons_succ, i64_w, i32_w]
                          rfl
                        refine take_ (i := 7) (N := some 109) (v := ?_) (a' := ?_) #[true, true, true, true, true, true, true, true, false] rfl rfl (by kernel_rfl) (fun _ _ _ h => h) (Or.inl ⟨by rfl, ?_⟩) hHeld ?_ ?_
                        rotate_left
                        · rintro w' ⟨hbe, s0, s1, s2, s3, s4, s5⟩
                          go_simp
                          first | done | with_reducible rfl
                        rotate_left
                        · simp only [Act.put, List.setIfInBounds_toArray, List.set_cons_zero, List.set_cons_succ, i64_w, i32_w]
                          rfl
                        refine tail_list 8 (t := [8]) (fuel := 0) rfl rfl rfl (by kernel_rfl) (by decide) ?_
                        clear hHeld p0 p1 p2 p3 p4 hlp x0 x1 x2 x3 x4 d1 hk0
                        go_wp2_with fail
                        refine HTK.out.mono ?_
                        rintro r w9 ⟨rfl, hT9, hTu⟩
                        have HT9 := Lib.hid hT9
                        have HP9 := Lib.hid ((HPq.out.below ((Below.refl wr.heap.size wr).drew)).step hTu (fun i hi => hi.2))
                        have HR9 := Lib.hid (Kd.R_step (Kd.R_drew HRq.out) (fun q hq hl => hTu.block q hl (fun h' => h'.2 (HXF2.out q hq))))
                        clear hT9 hTu HTK HTq HPq HRq hk hkL
                        go_wp2_with fail
                        exact ⟨⟨k + 1, by rw [HAR.out.2.2], HAR.out.1, HT9.out, HP9.out, HR9.out⟩, ten_less HAR.out.2.1 HAR.out.2.2⟩
                    · have hkk : k = L2 := by omega
                      subst hkk
                      have d1 : ¬ (k : Int) < (k : Int) := by omega
                      have hall : xs2.take k = xs2 := List.take_of_length_le (by rw [← HL2.out]; omega)
                      have HT2e := Lib.hid HTq.out
                      have HP2e := Lib.hid HPq.out
                      rw [hall] at HT2e
                      clear hall HTq HPq HRq hkL hk
                      have HFIN := Lib.hid (show PairAt w1 wr pb g1 g2 { p with a := (rounds_ (i + 1) (p.a, p.b)).1, b := (rounds_ (i + 1) (p.a, p.b)).2 } from by
                        rw [rounds_succ, ← HAB.out]
                        have ht := HT2e.out
                        rw [HXS2.out] at ht
                        refine ⟨_, ?_, _, _, _, _, _, _, _, _, HP2e.out⟩
                        unfold round_
                        simp only
                        rw [← HB1'.out]
                        exact ht)
                      go_wp2_with fail
                      exact ⟨⟨i + 1, by rw [HI.out.2.2], HI.out.1, HFIN.out⟩, lots_less HI.out.2.1 HI.out.2.2⟩
            · obtain rfl : i = rd + 1 := by omega
              have d0 : ¬ ((rd + 1 : Nat) : Int) ≤ (rd : Int) := by omega
              have HEND := Lib.hid (HTW.out.end_ HRD.out.1 HRD.out.2.1)
              clear hi hird h64s h64t
              obtain ⟨p0, p1, p2, p3, p4⟩ := HP0.out.cells
              have hlp := blk_lt HP0.out.blk
              go_wp2_with fail
              refine ((HT0.out).look (fun S h => tick_any _ w1.heap.size g1 S a h TA.out.1 (by have := TA.out.2.1; omega) TA.out.2.2.1 TA.out.2.2.2)).mono ?_
              rintro r w31 ⟨v, rfl, hR, hB3⟩
              have HT3 := Lib.hid (HT0.out.keep hB3)
              have HP3 := Lib.hid (HP0.out.wide hB3 HT0.out.hB.size)
              obtain ⟨X3, hX3⟩ : ∃ X : Nat → Prop, X = fun k => wr.heap.size ≤ k ∧ k < w31.heap.size := ⟨_, rfl⟩
              obtain ⟨F3, hF3⟩ : ∃ FF, FF = Since F wr w31 := ⟨_, rfl⟩
              obtain ⟨xs3, hxs3⟩ : ∃ x, x = tickE a := ⟨_, rfl⟩
              rw [← hxs3] at hR
              have HXS3 := Lib.hid hxs3
              have HR3 := Lib.hid (show Kd.R k24 24 w31 w1.heap.size X3 v xs3 from by rw [hX3]; exact Kd.R_lower (Kd.R_mono (Kd.R_bound hR) (fun k hk => ⟨hk.2.1, hk.2.2.1⟩)) HT0.out.hB.size)
              have HXF3 := Lib.hid (show ∀ k, X3 k → F3 k from fun k hk => by rw [hX3] at hk; rw [hF3]; exact .inr hk)
              have hL3 : xs3.length ≤ 4 := by rw [hxs3]; exact tick_le4 _
              rw [← hF3] at HT3 HP3
              obtain ⟨Av3, cv3, rfl⟩ := Kd.R_slice hR
              obtain ⟨L3, hLL3⟩ : ∃ L, L = xs3.length := ⟨_, rfl⟩
              rw [← hLL3] at HR3 hL3 ⊢
              have HL3 := Lib.hid hLL3
              clear hR hB3 hX3 hF3 hxs3 hLL3 p0 p1 p2 p3 p4 hlp
              go_wp2_with fail
              go_loopw [15] (fun vk wq => ∃ k : Nat, vk = .int .i64 (k : Int) ∧ k ≤ L3 ∧ TwoF 77 w1 wq F3 g1 g2 a (takes b (xs3.take k)) ∧ PairRows w1 wq F3 pb g1 g2 p.l p.s p.t vl vs vt Fl Fs Ft us ut ∧ Kd.R k24 24 wq w1.heap.size X3 (.slice Av3 L3 cv3) xs3) (fun vk _ => 10 - (intOf vk).toNat)
              case atStart => exact ⟨0, rfl, by omega, HT3.out, HP3.out, HR3.out⟩
              case round =>
                obtain ⟨k, rfl, hk, hTq, hPq, hRq⟩ := hrel
                have HTq := Lib.hid hTq
                have HPq := Lib.hid hPq
                have HRq := Lib.hid hRq
                clear hTq hPq hRq HT3 HP3 HR3
                by_cases hkL : k < L3
                · have d1 : (k : Int) < (L3 : Int) := by omega
                  have HAR := Lib.hid (show k + 1 ≤ L3 ∧ k < 10 ∧ wrap64 ((k : Int) + 1) = ((k + 1 : Nat) : Int) from ⟨by omega, by omega, wrap_succ (by omega)⟩)
                  obtain ⟨x, hx⟩ : ∃ x, xs3[k]? = some x := ⟨_, List.getElem?_eq_getElem (by rw [← HL3.out]; exact hkL)⟩
                  obtain ⟨Av, cv, hAv, hcv, hCv⟩ := Kd.R_reads HRq.out
                  injection hAv with hA1 hA2 hA3
                  rw [← hA1, ← HL3.out] at hCv
                  obtain ⟨ad, A4, c4, hAd, x0, x1, x2, x3, x4, x5, x6⟩ := atN_24 hCv k hkL x hx
                  obtain ⟨n4, hn4⟩ : ∃ q, q = x.f4.length := ⟨_, rfl⟩
                  rw [← hn4] at x4 x5 x6
                  have HDC := Lib.hid (And.intro hn4.symm (And.intro x5 x6))
                  have hbig : n4 ≤ 140737488351232 := by
                    have := tick_small_f TA2.out x (by rw [← HXS3.out]; exact List.mem_of_getElem? hx)
                    omega
                  have hcr := takes_bound b (xs3.take k)
                  have hcl : (xs3.take k).length = k := by rw [List.length_take, ← HL3.out]; omega
                  have hcb : (takes b (xs3.take k)).came.length ≤ 1000000 := by have := hcr.2; have := CB.out; omega
                  have hsb : (takes b (xs3.take k)).sent.length ≤ 1000000 := by rw [hcr.1]; have := CB.out; omega
                  have HTKE := Lib.hid (show takes b (xs3.take (k + 1)) = takeE (takes b (xs3.take k)) x from by rw [List.take_add_one, hx]; unfold takes; rw [List.foldl_append]; rfl)
                  have htk := ((HTq.out.below ((Below.refl wr.heap.size wr).drew)).swap.step (fun S h => take_any wr.drew w1.heap.size g2 S _ h hcb hsb x A4 n4 c4 HDC.out.1 (Kd.C_below HDC.out.2.2 ((Below.refl _ _).drew)) HDC.out.2.1 hbig))
                  rw [← HTKE.out] at htk
                  have HTK := Lib.hid htk
                  obtain ⟨p0, p1, p2, p3, p4⟩ := HPq.out.cells
                  have hlp := blk_lt HPq.out.blk
                  have hk0 : (0 : Int) ≤ (k : Int) := by omega
                  obtain rfl : Av3 = some ad := hAd
                  have HS := Lib.hid (fun (w' : World) (h : Below wr.heap.size wr w') => (⟨h, pw_cell_below h p1, pw_cell_below h x0, pw_cell_below h x1, pw_cell_below h x2, pw_cell_below h x3, pw_cell_below h x4⟩ : Below wr.heap.size wr w' ∧ w'.cell? ⟨pb, 1, none⟩ = some (.pointer (some ⟨g2, 0, none⟩)) ∧ w'.cell? (ad.add (k * 5)) = some (.int .i64 x.f0) ∧ w'.cell? ⟨(ad.add (k * 5)).block, (ad.add (k * 5)).off + 1, none⟩ = some (.int .i64 x.f1) ∧ w'.cell? ⟨(ad.add (k * 5)).block, (ad.add (k * 5)).off + 2, none⟩ = some (.bool x.f2) ∧ w'.cell? ⟨(ad.add (k * 5)).block, (ad.add (k * 5)).off + 3, none⟩ = some (.int .i64 x.f3) ∧ w'.cell? ⟨(ad.add (k * 5)).block, (ad.add (k * 5)).off + 4, none⟩ = some (.slice A4 n4 c4)))
                  clear htk hcr hcl hcb hsb hbig hx hn4 hA1 hA2 hA3 hCv hcv x5 x6
                  go_upto_region 27 with (fail)
                  refine start_ (S := fun w' => Below wr.heap.size wr w' ∧ w'.cell? ⟨pb, 1, none⟩ = some (.pointer (some ⟨g2, 0, none⟩)) ∧ w'.cell? (ad.add (k * 5)) = some (.int .i64 x.f0) ∧ w'.cell? ⟨(ad.add (k * 5)).block, (ad.add (k * 5)).off + 1, none⟩ = some (.int .i64 x.f1) ∧ w'.cell? ⟨(ad.add (k * 5)).block, (ad.add (k * 5)).off + 2, none⟩ = some (.bool x.f2) ∧ w'.cell? ⟨(ad.add (k * 5)).block, (ad.add (k * 5)).off + 3, none⟩ = some (.int .i64 x.f3) ∧ w'.cell? ⟨(ad.add (k * 5)).block, (ad.add (k * 5)).off + 4, none⟩ = some (.slice A4 n4 c4)) (ds := [8]) (n := 9) #[false, false, false, false, false, false, false, false, false] rfl rfl rfl ?hS0 (fun hHeld => ?hrun)
                  case hS0 => exact HS.out _ (Below.refl _ _).drew
                  case hrun =>
                    refine pure_ (i := 0) (N := some 122) (v := ?_) (a' := ?_) #[true, false, false, false, false, false, false, false, false] rfl rfl (by kernel_rfl) (fun _ _ _ h => h) (Or.inl ⟨by rfl, ?_⟩) ?_ ?_
                    rotate_left
                    · intro w'
                      go_simp
                      first | done | with_reducible rfl
                    rotate_left
                    · simp only [Act.put, List.setIfInBounds_toArray, List.set_cons_zero, List.set_cons_succ, i64_w, i32_w]
                      rfl
                    refine pure_ (i := 1) (N := some 123) (v := ?_) (a' := ?_) #[true, true, false, false, false, false, false, false, false] rfl rfl (by kernel_rfl) (fun _ _ _ h => h) (Or.inl ⟨by rfl, ?_⟩) ?_ ?_
                    rotate_left
                    · intro w'
                      go_simp
                      first | done | with_reducible rfl
                    rotate_left
                    · simp only [Act.put, List.setIfInBounds_toArray, List.set_cons_zero, List.set_cons_succ, i64_w, i32_w]
                      rfl
                    refine pure_ (i := 2) (N := some 124) (v := ?_) (a' := ?_) #[true, true, true, false, false, false, false, false, false] rfl rfl (by kernel_rfl) (fun _ _ _ h => h) (Or.inl ⟨by rfl, ?_⟩) ?_ ?_
                    rotate_left
                    · intro w'
                      go_simp
                      first | done | with_reducible rfl
                    rotate_left
                    · simp only [Act.put, List.setIfInBounds_toArray, List.set_cons_zero, List.set_cons_succ, i64_w, i32_w]
                      rfl
                    refine take_ (i := 3) (N := some 125) (v := ?_) (a' := ?_) #[true, true, true, true, false, false, false, false, false] rfl rfl (by kernel_rfl) (fun _ _ _ h => h) (Or.inl ⟨by rfl, ?_⟩) hHeld ?_ ?_
                    rotate_left
                    · rintro w' ⟨hbe, s0, s1, s2, s3, s4, s5⟩
                      go_simp
                      first | done | with_reducible rfl
                    rotate_left
                    · simp only [Act.put, List.setIfInBounds_toArray, List.set_cons_zero, List.set_cons_succ, i64_w, i32_w]
                      rfl
                    refine pure_ (i := 4) (N := some 126) (v := ?_) (a' := ?_) #[true, true, true, true, true, false, false, false, false] rfl rfl (by kernel_rfl) (fun _ _ _ h => h) (Or.inl ⟨by rfl, ?_⟩) ?_ ?_
                    rotate_left
                    · intro w'
                      go_simp
                      first | done | with_reducible rfl
                    rotate_left
                    · simp only [Act.put, List.setIfInBounds_toArray, List.set_cons_zero, List.set_cons_succ, i64_w, i32_w]
                      rfl
                    refine pure_ (i := 5) (N := some 127) (v := ?_) (a' := ?_) #[true, true, true, true, true, true, false, false, false] rfl rfl (by kernel_rfl) (fun _ _ _ h => h) (Or.inl ⟨by rfl, ?_⟩) ?_ ?_
                    rotate_left
                    · intro w'
                      go_simp
                      first | done | with_reducible rfl
                    rotate_left
                    · simp only [Act.put, List.setIfInBounds_toArray, List.set_cons_zero, List.set_cons_succ, i64_w, i32_w]
                      rfl
                    refine pure_ (i := 6) (N := some 128) (v := ?_) (a' := ?_) #[true, true, true, true, true, true, true, false, false] rfl rfl (by kernel_rfl) (fun _ _ _ h => h) (Or.inl ⟨by rfl, ?_⟩) ?_ ?_
                    rotate_left
                    · intro w'
                      go_simp
                      first | done | with_reducible rfl
                    rotate_left
                    · simp only [Act.put, List.setIfInBounds_toArray, List.set_cons_zero, List.set_cons_succ, i64_w, i32_w]
                      rfl
                    refine take_ (i := 7) (N := some 129) (v := ?_) (a' := ?_) #[true, true, true, true, true, true, true, true, false] rfl rfl (by kernel_rfl) (fun _ _ _ h => h) (Or.inl ⟨by rfl, ?_⟩) hHeld ?_ ?_
                    rotate_left
                    · rintro w' ⟨hbe, s0, s1, s2, s3, s4, s5⟩
                      go_simp
                      first | done | with_reducible rfl
                    rotate_left
                    · simp only [Act.put, List.setIfInBounds_toArray, List.set_cons_zero, List.set_cons_succ, i64_w, i32_w]
                      rfl
                    refine tail_list 8 (t := [8]) (fuel := 0) rfl rfl rfl (by kernel_rfl) (by decide) ?_
                    clear hHeld p0 p1 p2 p3 p4 hlp x0 x1 x2 x3 x4 d1 hk0
                    go_wp2_with fail
                    refine HTK.out.mono ?_
                    rintro r w9 ⟨rfl, hT9, hTu⟩
                    have HT9 := Lib.hid hT9.swap
                    have HP9 := Lib.hid ((HPq.out.below ((Below.refl wr.heap.size wr).drew)).step hTu (fun i hi => hi.2))
                    have HR9 := Lib.hid (Kd.R_step (Kd.R_drew HRq.out) (fun q hq hl => hTu.block q hl (fun h' => h'.2 (HXF3.out q hq))))
                    clear hT9 hTu HTK HTq HPq HRq hk hkL
                    go_wp2_with fail
                    exact ⟨⟨k + 1, by rw [HAR.out.2.2], HAR.out.1, HT9.out, HP9.out, HR9.out⟩, ten_less HAR.out.2.1 HAR.out.2.2⟩
                · have hkk : k = L3 := by omega
                  subst hkk
                  have d1 : ¬ (k : Int) < (k : Int) := by omega
                  have hall : xs3.take k = xs3 := List.take_of_length_le (by rw [← HL3.out]; omega)
                  have HT3e := Lib.hid HTq.out
                  have HP3e := Lib.hid HPq.out
                  rw [hall] at HT3e
                  clear hall HTq HPq HRq hkL hk
                  rw [HXS3.out] at HT3e
                  obtain ⟨b2, hb2⟩ : ∃ b2, b2 = takes b (tickE a) := ⟨_, rfl⟩
                  have hend := HEND.out
                  try simp only at hend
                  rw [← hb2] at hend HT3e
                  obtain ⟨e1, e2, e3, e4⟩ := hend
                  have HPE := Lib.hid (show PairAt w1 wr pb g1 g2 { p with a := a, b := b2 } from ⟨_, HT3e.out, _, _, _, _, _, _, _, _, HP3e.out⟩)
                  obtain ⟨p0, p1, As, cs, At, ct, p3, p4, hcs, hct, hCs, hCt⟩ := HPE.out.rows
                  have h64s : p.s.length ≤ 64 := by rw [← HIS.out.1.sa]; exact HIS.out.2.a
                  have h64t : p.t.length ≤ 64 := by rw [← HIS.out.1.sb]; exact HIS.out.2.b
                  have HBG := Lib.hid (show (∀ l ∈ p.t, l.length ≤ 140737488351232) ∧ ∀ l ∈ p.s, l.length ≤ 140737488351232 from ⟨fun l hl => by rw [← HIS.out.1.sb] at hl; have := HIS.out.2.bz l hl; omega, fun l hl => by rw [← HIS.out.1.sa] at hl; have := HIS.out.2.az l hl; omega⟩)
                  have q3 : wr.cell? ⟨pb, 3, none⟩ = some (.slice As p.s.length cs) := p3
                  have q4 : wr.cell? ⟨pb, 4, none⟩ = some (.slice At p.t.length ct) := p4
                  have HCS := Lib.hid (show p.s.length ≤ cs ∧ p.t.length ≤ ct ∧ Kd.C kT wr As p.s.length p.s ∧ Kd.C kT wr At p.t.length p.t from ⟨hcs, hct, hCs, hCt⟩)
                  obtain ⟨ns, hns⟩ : ∃ k, k = p.s.length := ⟨_, rfl⟩
                  obtain ⟨nt, hnt⟩ : ∃ k, k = p.t.length := ⟨_, rfl⟩
                  rw [← hns] at q3 HCS h64s
                  rw [← hnt] at q4 HCS h64t
                  have HNN := Lib.hid (And.intro hns.symm hnt.symm)
                  have H64 := Lib.hid (And.intro h64s h64t)
                  have HEE := Lib.hid (And.intro e1 (And.intro e2 (And.intro e3 e4)))
                  have HS := Lib.hid (fun (w' : World) (h : Below wr.heap.size wr w') => (⟨h, pw_cell_below h p0, pw_cell_below h p1, pw_cell_below h q3, pw_cell_below h q4⟩ : Below wr.heap.size wr w' ∧ w'.cell? ⟨pb, 0, none⟩ = some (.pointer (some ⟨g1, 0, none⟩)) ∧ w'.cell? ⟨pb, 1, none⟩ = some (.pointer (some ⟨g2, 0, none⟩)) ∧ w'.cell? ⟨pb, 3, none⟩ = some (.slice As ns cs) ∧ w'.cell? ⟨pb, 4, none⟩ = some (.slice At nt ct)))
                  clear d0 d1 hb2 e1 e2 e3 e4 p0 p1 p3 p4 q3 q4 hcs hct hCs hCt hns hnt h64s h64t
                  go_upto_region 28 with (fail)
                  refine start_ (S := fun w' => Below wr.heap.size wr w' ∧ w'.cell? ⟨pb, 0, none⟩ = some (.pointer (some ⟨g1, 0, none⟩)) ∧ w'.cell? ⟨pb, 1, none⟩ = some (.pointer (some ⟨g2, 0, none⟩)) ∧ w'.cell? ⟨pb, 3, none⟩ = some (.slice As ns cs) ∧ w'.cell? ⟨pb, 4, none⟩ = some (.slice At nt ct)) (ds := [39]) (n := 40) #[false, false, false, false, false, false, false, false, false, false, false, false, false, false, false, false, false, false, false, false, false, false, false, false, false, false, false, false, false, false, false, false, false, false, false, false, false, false, false, false] rfl rfl rfl ?hS0 (fun hHeld => ?hrun)
                  case hS0 => exact HS.out _ (Below.refl _ _).drew
                  case hrun =>
                    refine pure_ (i := 0) (N := some 131) (v := ?_) (a' := ?_) #[true, false, false, false, false, false, false, false, false, false, false, false, false, false, false, false, false, false, false, false, false, false, false, false, false, false, false, false, false, false, false, false, false, false, false, false, false, false, false, false] rfl rfl (by as_aux_lemma => kernel_rfl) (fun _ _ _ h => h) (Or.inl ⟨by rfl, ?_⟩) ?_ ?_
                    rotate_left
                    · intro w'
                      go_simp
                      first | done | with_reducible rfl
                    rotate_left
                    · simp only [Act.put, List.setIfInBounds_toArray, List.set_cons_zero, List.set_cons_succ, i64_w, i32_w]
                      rfl
                    refine pure_ (i := 1) (N := some 132) (v := ?_) (a' := ?_) #[true, true, false, false, false, false, false, false, false, false, false, false, false, false, false, false, false, false, false, false, false, false, false, false, false, false, false, false, false, false, false, false, false, false, false, false, false, false, false, false] rfl rfl (by as_aux_lemma => kernel_rfl) (fun _ _ _ h => h) (Or.inl ⟨by rfl, ?_⟩) ?_ ?_
                    rotate_left
                    · intro w'
                      go_simp
                      first | done | with_reducible rfl
                    rotate_left
                    · simp only [Act.put, List.setIfInBounds_toArray, List.set_cons_zero, List.set_cons_succ, i64_w, i32_w]
                      rfl
                    refine pure_ (i := 2) (N := some 133) (v := ?_) (a' := ?_) #[true, true, true, false, false, false, false, false, false, false, false, false, false, false, false, false, false, false, false, false, false, false, false, false, false, false, false, false, false, false, false, false, false, false, false, false, false, false, false, false] rfl rfl (by as_aux_lemma => kernel_rfl) (fun _ _ _ h => h) (Or.inl ⟨by rfl, ?_⟩) ?_ ?_
                    rotate_left
                    · intro w'
                      go_simp
                      first | done | with_reducible rfl
                    rotate_left
                    · simp only [Act.put, List.setIfInBounds_toArray, List.set_cons_zero, List.set_cons_succ, i64_w, i32_w]
                      rfl
                    refine pure_ (i := 3) (N := some 134) (v := ?_) (a' := ?_) #[true, true, true, true, false, false, false, false, false, false, false, false, false, false, false, false, false, false, false, false, false, false, false, false, false, false, false, false, false, false, false, false, false, false, false, false, false, false, false, false] rfl rfl (by as_aux_lemma => kernel_rfl) (fun _ _ _ h => h) (Or.inl ⟨by rfl, ?_⟩) ?_ ?_
                    rotate_left
                    · intro w'
                      go_simp
                      first | done | with_reducible rfl
                    rotate_left
                    · simp only [Act.put, List.setIfInBounds_toArray, List.set_cons_zero, List.set_cons_succ, i64_w, i32_w]
                      rfl
                    refine pure_ (i := 4) (N := some 135) (v := ?_) (a' := ?_) #[true, true, true, true, true, false, false, false, false, false, false, false, false, false, false, false, false, false, false, false, false, false, false, false, false, false, false, false, false, false, false, false, false, false, false, false, false, false, false, false] rfl rfl (by as_aux_lemma => kernel_rfl) (fun _ _ _ h => h) (Or.inl ⟨by rfl, ?_⟩) ?_ ?_
                    rotate_left
                    · intro w'
                      go_simp
                      first | done | with_reducible rfl
                    rotate_left
                    · simp only [Act.put, List.setIfInBounds_toArray, List.set_cons_zero, List.set_cons_succ, i64_w, i32_w]
                      rfl
                    refine take_ (i := 5) (N := some 136) (v := ?_) (a' := ?_) #[true, true, true, true, true, true, false, false, false, false, false, false, false, false, false, false, false, false, false, false, false, false, false, false, false, false, false, false, false, false, false, false, false, false, false, false, false, false, false, false] rfl rfl (by as_aux_lemma => kernel_rfl) (fun _ _ _ h => h) (Or.inl ⟨by rfl, ?_⟩) hHeld ?_ ?_
                    rotate_left
                    · rintro w' ⟨hbe, s0, s1, s2, s3⟩
                      go_simp
                      first | done | with_reducible rfl
                    rotate_left
                    · simp only [Act.put, List.setIfInBounds_toArray, List.set_cons_zero, List.set_cons_succ, i64_w, i32_w]
                      rfl
                    refine pure_ (i := 7) (N := some 138) (v := ?_) (a' := ?_) #[true, true, true, true, true, true, false, true, false, false, false, false, false, false, false, false, false, false, false, false, false, false, false, false, false, false, false, false, false, false, false, false, false, false, false, false, false, false, false, false] rfl rfl (by as_aux_lemma => kernel_rfl) (fun _ _ _ h => h) (Or.inl ⟨by rfl, ?_⟩) ?_ ?_
                    rotate_left
                    · intro w'
                      go_simp
                      first | done | with_reducible rfl
                    rotate_left
                    · simp only [Act.put, List.setIfInBounds_toArray, List.set_cons_zero, List.set_cons_succ, i64_w, i32_w]
                      rfl
                    refine pure_ (i := 8) (N := some 139) (v := ?_) (a' := ?_) #[true, true, true, true, true, true, false, true, true, false, false, false, false, false, false, false, false, false, false, false, false, false, false, false, false, false, false, false, false, false, false, false, false, false, false, false, false, false, false, false] rfl rfl (by as_aux_lemma => kernel_rfl) (fun _ _ _ h => h) (Or.inl ⟨by rfl, ?_⟩) ?_ ?_
                    rotate_left
                    · intro w'
                      go_simp
                      first | done | with_reducible rfl
                    rotate_left
                    · simp only [Act.put, List.setIfInBounds_toArray, List.set_cons_zero, List.set_cons_succ, i64_w, i32_w]
                      rfl
                    refine pure_ (i := 9) (N := some 140) (v := ?_) (a' := ?_) #[true, true, true, true, true, true, false, true, true, true, false, false, false, false, false, false, false, false, false, false, false, false, false, false, false, false, false, false, false, false, false, false, false, false, false, false, false, false, false, false] rfl rfl (by as_aux_lemma => kernel_rfl) (fun _ _ _ h => h) (Or.inl ⟨by rfl, ?_⟩) ?_ ?_
                    rotate_left
                    · intro w'
                      go_simp
                      first | done | with_reducible rfl
                    rotate_left
                    · simp only [Act.put, List.setIfInBounds_toArray, List.set_cons_zero, List.set_cons_succ, i64_w, i32_w]
                      rfl
                    refine take_ (i := 10) (N := some 141) (v := ?_) (a' := ?_) #[true, true, true, true, true, true, false, true, true, true, true, false, false, false, false, false, false, false, false, false, false, false, false, false, false, false, false, false, false, false, false, false, false, false, false, false, false, false, false, false] rfl rfl (by as_aux_lemma => kernel_rfl) (fun _ _ _ h => h) (Or.inl ⟨by rfl, ?_⟩) hHeld ?_ ?_
                    rotate_left
                    · rintro w' ⟨hbe, s0, s1, s2, s3⟩
                      go_simp
                      first | done | with_reducible rfl
                    rotate_left
                    · simp only [Act.put, List.setIfInBounds_toArray, List.set_cons_zero, List.set_cons_succ, i64_w, i32_w]
                      rfl
                    refine one_ (i := 6) (N := some 137) #[true, true, true, true, true, true, true, true, true, true, true, false, false, false, false, false, false, false, false, false, false, false, false, false, false, false, false, false, false, false, false, false, false, false, false, false, false, false, false, false] rfl rfl (by as_aux_lemma => kernel_rfl) (by decide) (fun K hK => ?_)
                    refine goes_ Tryd.func28 (by as_aux_lemma => kernel_rfl) rfl #[.pointer (some ⟨g1, 0, none⟩)] (by rfl) rfl rfl (by (try simp only [List.map_toArray, List.map_cons, List.map_nil]); first | done | rfl) ?_
                    refine ((HPE.out.below ((Below.refl wr.heap.size wr).drew)).a (fun S h => got_any wr.drew w1.heap.size g1 S a h (by rw [HEE.out.1, HNN.out.2]; have := H64.out.2; omega) (by rw [HEE.out.1]; exact HBG.out.1))).mono ?_
                    rintro r w5 ⟨v, rfl, hR, hB5⟩
                    rw [HEE.out.1] at hR
                    obtain ⟨Av, cv, rfl, hcv, hCv⟩ := Kd.R_reads hR
                    rw [HNN.out.2] at hcv hCv ⊢
                    have HB5 := Lib.hid (show Below wr.heap.size wr w5 from ((Below.refl _ _).drew).trans hB5)
                    have HV := Lib.hid (And.intro hcv hCv)
                    clear hR hB5 hcv hCv hHeld
                    refine ⟨_, rfl, ?_⟩
                    refine hK.out _ _ (HS.out _ HB5.out) (fun hHeld1 => ?_)
                    clear hK K
                    refine norm_ (a' := ?_) ?_ ?_
                    rotate_left
                    · show Act.put _ (some 137) _ = _
                      simp only [Act.put, List.setIfInBounds_toArray, List.set_cons_zero, List.set_cons_succ, i64_w, i32_w]
                      rfl
                    refine one_ (i := 11) (N := some 142) #[true, true, true, true, true, true, true, true, true, true, true, true, false, false, false, false, false, false, false, false, false, false, false, false, false, false, false, false, false, false, false, false, false, false, false, false, false, false, false, false] rfl rfl (by as_aux_lemma => kernel_rfl) (by decide) (fun K hK => ?_)
                    refine goes_ Tryd.func27 (by as_aux_lemma => kernel_rfl) rfl #[.slice Av nt cv, .slice At nt ct] (by rfl) rfl rfl (by (try simp only [List.map_toArray, List.map_cons, List.map_nil]); first | done | rfl) ?_
                    refine (stexts_any p.t nt HNN.out.2 (by have := H64.out.2; omega) Av At cv ct w5 HV.out.2 HV.out.1 (Kd.C_below HCS.out.2.2.2 HB5.out) HCS.out.2.1).mono ?_
                    rintro r w6 ⟨rfl, hB6⟩
                    have HB6 := Lib.hid (HB5.out.trans (hB6.mono HB5.out.size))
                    clear hB6 hHeld1
                    refine ⟨_, rfl, ?_⟩
                    refine hK.out _ _ (HS.out _ HB6.out) (fun hHeld2 => ?_)
                    clear hK K
                    refine norm_ (a' := ?_) ?_ ?_
                    rotate_left
                    · show Act.put _ (some 142) _ = _
                      simp only [Act.put, List.setIfInBounds_toArray, List.set_cons_zero, List.set_cons_succ, i64_w, i32_w]
                      rfl
                    refine pure_ (i := 12) (N := some 143) (v := ?_) (a' := ?_) #[true, true, true, true, true, true, true, true, true, true, true, true, true, false, false, false, false, false, false, false, false, false, false, false, false, false, false, false, false, false, false, false, false, false, false, false, false, false, false, false] rfl rfl (by as_aux_lemma => kernel_rfl) (fun _ _ _ h => h) (Or.inl ⟨by rfl, ?_⟩) ?_ ?_
                    rotate_left
                    · intro w'
                      go_simp
                      first | done | with_reducible rfl
                    rotate_left
                    · simp only [Act.put, List.setIfInBounds_toArray, List.set_cons_zero, List.set_cons_succ, i64_w, i32_w]
                      rfl
                    refine pure_ (i := 13) (N := some 144) (v := ?_) (a' := ?_) #[true, true, true, true, true, true, true, true, true, true, true, true, true, true, false, false, false, false, false, false, false, false, false, false, false, false, false, false, false, false, false, false, false, false, false, false, false, false, false, false] rfl rfl (by as_aux_lemma => kernel_rfl) (fun _ _ _ h => h) (Or.inl ⟨by rfl, ?_⟩) ?_ ?_
                    rotate_left
                    · intro w'
                      go_simp
                      first | done | with_reducible rfl
                    rotate_left
                    · simp only [Act.put, List.setIfInBounds_toArray, List.set_cons_zero, List.set_cons_succ, i64_w, i32_w]
                      rfl
                    refine pure_ (i := 14) (N := some 145) (v := ?_) (a' := ?_) #[true, true, true, true, true, true, true, true, true, true, true, true, true, true, true, false, false, false, false, false, false, false, false, false, false, false, false, false, false, false, false, false, false, false, false, false, false, false, false, false] rfl rfl (by as_aux_lemma => kernel_rfl) (fun _ _ _ h => h) (Or.inl ⟨by rfl, ?_⟩) ?_ ?_
                    rotate_left
                    · intro w'
                      go_simp
                      first | done | with_reducible rfl
                    rotate_left
                    · simp only [Act.put, List.setIfInBounds_toArray, List.set_cons_zero, List.set_cons_succ, i64_w, i32_w]
                      rfl
                    refine pure_ (i := 15) (N := some 146) (v := ?_) (a' := ?_) #[true, true, true, true, true, true, true, true, true, true, true, true, true, true, true, true, false, false, false, false, false, false, false, false, false, false, false, false, false, false, false, false, false, false, false, false, false, false, false, false] rfl rfl (by as_aux_lemma => kernel_rfl) (fun _ _ _ h => h) (Or.inl ⟨by rfl, ?_⟩) ?_ ?_
                    rotate_left
                    · intro w'
                      go_simp
                      first | done | with_reducible rfl
                    rotate_left
                    · simp only [Act.put, List.setIfInBounds_toArray, List.set_cons_zero, List.set_cons_succ, i64_w, i32_w]
                      rfl
                    refine pure_ (i := 16) (N := some 147) (v := ?_) (a' := ?_) #[true, true, true, true, true, true, true, true, true, true, true, true, true, true, true, true, true, false, false, false, false, false, false, false, false, false, false, false, false, false, false, false, false, false, false, false, false, false, false, false] rfl rfl (by as_aux_lemma => kernel_rfl) (fun _ _ _ h => h) (Or.inl ⟨by rfl, ?_⟩) ?_ ?_
                    rotate_left
                    · intro w'
                      go_simp
                      first | done | with_reducible rfl
                    rotate_left
                    · simp only [Act.put, List.setIfInBounds_toArray, List.set_cons_zero, List.set_cons_succ, i64_w, i32_w]
                      rfl
                    refine take_ (i := 17) (N := some 148) (v := ?_) (a' := ?_) #[true, true, true, true, true, true, true, true, true, true, true, true, true, true, true, true, true, true, false, false, false, false, false, false, false, false, false, false, false, false, false, false, false, false, false, false, false, false, false, false] rfl rfl (by as_aux_lemma => kernel_rfl) (fun _ _ _ h => h) (Or.inl ⟨by rfl, ?_⟩) hHeld2 ?_ ?_
                    rotate_left
                    · rintro w' ⟨hbe, s0, s1, s2, s3⟩
                      go_simp
                      first | done | with_reducible rfl
                    rotate_left
                    · simp only [Act.put, List.setIfInBounds_toArray, List.set_cons_zero, List.set_cons_succ, i64_w, i32_w]
                      rfl
                    refine pure_ (i := 19) (N := some 150) (v := ?_) (a' := ?_) #[true, true, true, true, true, true, true, true, true, true, true, true, true, true, true, true, true, true, false, true, false, false, false, false, false, false, false, false, false, false, false, false, false, false, false, false, false, false, false, false] rfl rfl (by as_aux_lemma => kernel_rfl) (fun _ _ _ h => h) (Or.inl ⟨by rfl, ?_⟩) ?_ ?_
                    rotate_left
                    · intro w'
                      go_simp
                      first | done | with_reducible rfl
                    rotate_left
                    · simp only [Act.put, List.setIfInBounds_toArray, List.set_cons_zero, List.set_cons_succ, i64_w, i32_w]
                      rfl
                    refine pure_ (i := 20) (N := some 151) (v := ?_) (a' := ?_) #[true, true, true, true, true, true, true, true, true, true, true, true, true, true, true, true, true, true, false, true, true, false, false, false, false, false, false, false, false, false, false, false, false, false, false, false, false, false, false, false] rfl rfl (by as_aux_lemma => kernel_rfl) (fun _ _ _ h => h) (Or.inl ⟨by rfl, ?_⟩) ?_ ?_
                    rotate_left
                    · intro w'
                      go_simp
                      first | done | with_reducible rfl
                    rotate_left
                    · simp only [Act.put, List.setIfInBounds_toArray, List.set_cons_zero, List.set_cons_succ, i64_w, i32_w]
                      rfl
                    refine pure_ (i := 21) (N := some 152) (v := ?_) (a' := ?_) #[true, true, true, true, true, true, true, true, true, true, true, true, true, true, true, true, true, true, false, true, true, true, false, false, false, false, false, false, false, false, false, false, false, false, false, false, false, false, false, false] rfl rfl (by as_aux_lemma => kernel_rfl) (fun _ _ _ h => h) (Or.inl ⟨by rfl, ?_⟩) ?_ ?_
                    rotate_left
                    · intro w'
                      go_simp
                      first | done | with_reducible rfl
                    rotate_left
                    · simp only [Act.put, List.setIfInBounds_toArray, List.set_cons_zero, List.set_cons_succ, i64_w, i32_w]
                      rfl
                    refine take_ (i := 22) (N := some 153) (v := ?_) (a' := ?_) #[true, true, true, true, true, true, true, true, true, true, true, true, true, true, true, true, true, true, false, true, true, true, true, false, false, false, false, false, false, false, false, false, false, false, false, false, false, false, false, false] rfl rfl (by as_aux_lemma => kernel_rfl) (fun _ _ _ h => h) (Or.inl ⟨by rfl, ?_⟩) hHeld2 ?_ ?_
                    rotate_left
                    · rintro w' ⟨hbe, s0, s1, s2, s3⟩
                      go_simp
                      first | done | with_reducible rfl
                    rotate_left
                    · simp only [Act.put, List.setIfInBounds_toArray, List.set_cons_zero, List.set_cons_succ, i64_w, i32_w]
                      rfl
                    refine one_ (i := 18) (N := some 149) #[true, true, true, true, true, true, true, true, true, true, true, true, true, true, true, true, true, true, true, true, true, true, true, false, false, false, false, false, false, false, false, false, false, false, false, false, false, false, false, false] rfl rfl (by as_aux_lemma => kernel_rfl) (by decide) (fun K hK => ?_)
                    refine goes_ Tryd.func28 (by as_aux_lemma => kernel_rfl) rfl #[.pointer (some ⟨g2, 0, none⟩)] (by rfl) rfl rfl (by (try simp only [List.map_toArray, List.map_cons, List.map_nil]); first | done | rfl) ?_
                    refine ((HPE.out.below HB6.out).b (fun S h => got_any w6 w1.heap.size g2 S b2 h (by rw [HEE.out.2.1, HNN.out.1]; have := H64.out.1; omega) (by rw [HEE.out.2.1]; exact HBG.out.2))).mono ?_
                    rintro r w7 ⟨v, rfl, hR, hB7⟩
                    rw [HEE.out.2.1] at hR
                    obtain ⟨Aw, cw, rfl, hcv, hCv⟩ := Kd.R_reads hR
                    rw [HNN.out.1] at hcv hCv ⊢
                    have HB7 := Lib.hid (HB6.out.trans (hB7.mono HB6.out.size))
                    have HV2 := Lib.hid (And.intro hcv hCv)
                    clear hR hB7 hcv hCv hHeld2
                    refine ⟨_, rfl, ?_⟩
                    refine hK.out _ _ (HS.out _ HB7.out) (fun hHeld3 => ?_)
                    clear hK K
                    refine norm_ (a' := ?_) ?_ ?_
                    rotate_left
                    · show Act.put _ (some 149) _ = _
                      simp only [Act.put, List.setIfInBounds_toArray, List.set_cons_zero, List.set_cons_succ, i64_w, i32_w]
                      rfl
                    refine one_ (i := 23) (N := some 154) #[true, true, true, true, true, true, true, true, true, true, true, true, true, true, true, true, true, true, true, true, true, true, true, true, false, false, false, false, false, false, false, false, false, false, false, false, false, false, false, false] rfl rfl (by as_aux_lemma => kernel_rfl) (by decide) (fun K hK => ?_)
                    refine goes_ Tryd.func27 (by as_aux_lemma => kernel_rfl) rfl #[.slice Aw ns cw, .slice As ns cs] (by rfl) rfl rfl (by (try simp only [List.map_toArray, List.map_cons, List.map_nil]); first | done | rfl) ?_
                    refine (stexts_any p.s ns HNN.out.1 (by have := H64.out.1; omega) Aw As cw cs w7 HV2.out.2 HV2.out.1 (Kd.C_below HCS.out.2.2.1 HB7.out) HCS.out.1).mono ?_
                    rintro r w8 ⟨rfl, hB8⟩
                    have HB8 := Lib.hid (HB7.out.trans (hB8.mono HB7.out.size))
                    clear hB8 hHeld3
                    refine ⟨_, rfl, ?_⟩
                    refine hK.out _ _ (HS.out _ HB8.out) (fun hHeld4 => ?_)
                    clear hK K
                    refine norm_ (a' := ?_) ?_ ?_
                    rotate_left
                    · show Act.put _ (some 154) _ = _
                      simp only [Act.put, List.setIfInBounds_toArray, List.set_cons_zero, List.set_cons_succ, i64_w, i32_w]
                      rfl
                    refine pure_ (i := 24) (N := some 155) (v := ?_) (a' := ?_) #[true, true, true, true, true, true, true, true, true, true, true, true, true, true, true, true, true, true, true, true, true, true, true, true, true, false, false, false, false, false, false, false, false, false, false, false, false, false, false, false] rfl rfl (by as_aux_lemma => kernel_rfl) (fun _ _ _ h => h) (Or.inl ⟨by rfl, ?_⟩) ?_ ?_
                    rotate_left
                    · intro w'
                      go_simp
                      first | done | with_reducible rfl
                    rotate_left
                    · simp only [Act.put, List.setIfInBounds_toArray, List.set_cons_zero, List.set_cons_succ, i64_w, i32_w]
                      rfl
                    refine pure_ (i := 25) (N := some 156) (v := ?_) (a' := ?_) #[true, true, true, true, true, true, true, true, true, true, true, true, true, true, true, true, true, true, true, true, true, true, true, true, true, true, false, false, false, false, false, false, false, false, false, false, false, false, false, false] rfl rfl (by as_aux_lemma => kernel_rfl) (fun _ _ _ h => h) (Or.inl ⟨by rfl, ?_⟩) ?_ ?_
                    rotate_left
                    · intro w'
                      go_simp
                      first | done | with_reducible rfl
                    rotate_left
                    · simp only [Act.put, List.setIfInBounds_toArray, List.set_cons_zero, List.set_cons_succ, i64_w, i32_w]
                      rfl
                    refine pure_ (i := 26) (N := some 157) (v := ?_) (a' := ?_) #[true, true, true, true, true, true, true, true, true, true, true, true, true, true, true, true, true, true, true, true, true, true, true, true, true, true, true, false, false, false, false, false, false, false, false, false, false, false, false, false] rfl rfl (by as_aux_lemma => kernel_rfl) (fun _ _ _ h => h) (Or.inl ⟨by rfl, ?_⟩) ?_ ?_
                    rotate_left
                    · intro w'
                      go_simp
                      first | done | with_reducible rfl
                    rotate_left
                    · simp only [Act.put, List.setIfInBounds_toArray, List.set_cons_zero, List.set_cons_succ, i64_w, i32_w]
                      rfl
                    refine pure_ (i := 27) (N := some 158) (v := ?_) (a' := ?_) #[true, true, true, true, true, true, true, true, true, true, true, true, true, true, true, true, true, true, true, true, true, true, true, true, true, true, true, true, false, false, false, false, false, false, false, false, false, false, false, false] rfl rfl (by as_aux_lemma => kernel_rfl) (fun _ _ _ h => h) (Or.inl ⟨by rfl, ?_⟩) ?_ ?_
                    rotate_left
                    · intro w'
                      go_simp
                      first | done | with_reducible rfl
                    rotate_left
                    · simp only [Act.put, List.setIfInBounds_toArray, List.set_cons_zero, List.set_cons_succ, i64_w, i32_w]
                      rfl
                    refine pure_ (i := 28) (N := some 159) (v := ?_) (a' := ?_) #[true, true, true, true, true, true, true, true, true, true, true, true, true, true, true, true, true, true, true, true, true, true, true, true, true, true, true, true, true, false, false, false, false, false, false, false, false, false, false, false] rfl rfl (by as_aux_lemma => kernel_rfl) (fun _ _ _ h => h) (Or.inl ⟨by rfl, ?_⟩) ?_ ?_
                    rotate_left
                    · intro w'
                      go_simp
                      first | done | with_reducible rfl
                    rotate_left
                    · simp only [Act.put, List.setIfInBounds_toArray, List.set_cons_zero, List.set_cons_succ, i64_w, i32_w]
                      rfl
                    refine take_ (i := 29) (N := some 160) (v := ?_) (a' := ?_) #[true, true, true, true, true, true, true, true, true, true, true, true, true, true, true, true, true, true, true, true, true, true, true, true, true, true, true, true, true, true, false, false, false, false, false, false, false, false, false, false] rfl rfl (by as_aux_lemma => kernel_rfl) (fun _ _ _ h => h) (Or.inl ⟨by rfl, ?_⟩) hHeld4 ?_ ?_
                    rotate_left
                    · rintro w' ⟨hbe, s0, s1, s2, s3⟩
                      go_simp
                      first | done | with_reducible rfl
                    rotate_left
                    · simp only [Act.put, List.setIfInBounds_toArray, List.set_cons_zero, List.set_cons_succ, i64_w, i32_w]
                      rfl
                    refine one_ (i := 30) (N := some 161) #[true, true, true, true, true, true, true, true, true, true, true, true, true, true, true, true, true, true, true, true, true, true, true, true, true, true, true, true, true, true, true, false, false, false, false, false, false, false, false, false] rfl rfl (by as_aux_lemma => kernel_rfl) (by decide) (fun K hK => ?_)
                    refine goes_ Tryd.func26 (by as_aux_lemma => kernel_rfl) rfl #[.pointer (some ⟨g1, 0, none⟩)] (by rfl) rfl rfl (by (try simp only [List.map_toArray, List.map_cons, List.map_nil]); first | done | rfl) ?_
                    refine ((HPE.out.below HB8.out).a (fun S h => done_any w8 w1.heap.size g1 S a h)).mono ?_
                    rintro r w9 ⟨rfl, hB9⟩
                    rw [decide_eq_true HEE.out.2.2.1]
                    have HB9 := Lib.hid (HB8.out.trans (hB9.mono HB8.out.size))
                    clear hB9 hHeld4
                    refine ⟨_, rfl, ?_⟩
                    refine hK.out _ _ (HS.out _ HB9.out) (fun hHeld5 => ?_)
                    clear hK K
                    refine norm_ (a' := ?_) ?_ ?_
                    rotate_left
                    · show Act.put _ (some 161) _ = _
                      simp only [Act.put, List.setIfInBounds_toArray, List.set_cons_zero, List.set_cons_succ, i64_w, i32_w]
                      rfl
                    refine pure_ (i := 31) (N := some 162) (v := ?_) (a' := ?_) #[true, true, true, true, true, true, true, true, true, true, true, true, true, true, true, true, true, true, true, true, true, true, true, true, true, true, true, true, true, true, true, true, false, false, false, false, false, false, false, false] rfl rfl (by as_aux_lemma => kernel_rfl) (fun _ _ _ h => h) (Or.inl ⟨by rfl, ?_⟩) ?_ ?_
                    rotate_left
                    · intro w'
                      go_simp
                      first | done | with_reducible rfl
                    rotate_left
                    · simp only [Act.put, List.setIfInBounds_toArray, List.set_cons_zero, List.set_cons_succ, i64_w, i32_w]
                      rfl
                    refine pure_ (i := 32) (N := some 163) (v := ?_) (a' := ?_) #[true, true, true, true, true, true, true, true, true, true, true, true, true, true, true, true, true, true, true, true, true, true, true, true, true, true, true, true, true, true, true, true, true, false, false, false, false, false, false, false] rfl rfl (by as_aux_lemma => kernel_rfl) (fun _ _ _ h => h) (Or.inl ⟨by rfl, ?_⟩) ?_ ?_
                    rotate_left
                    · intro w'
                      go_simp
                      first | done | with_reducible rfl
                    rotate_left
                    · simp only [Act.put, List.setIfInBounds_toArray, List.set_cons_zero, List.set_cons_succ, i64_w, i32_w]
                      rfl
                    refine pure_ (i := 33) (N := some 164) (v := ?_) (a' := ?_) #[true, true, true, true, true, true, true, true, true, true, true, true, true, true, true, true, true, true, true, true, true, true, true, true, true, true, true, true, true, true, true, true, true, true, false, false, false, false, false, false] rfl rfl (by as_aux_lemma => kernel_rfl) (fun _ _ _ h => h) (Or.inl ⟨by rfl, ?_⟩) ?_ ?_
                    rotate_left
                    · intro w'
                      go_simp
                      first | done | with_reducible rfl
                    rotate_left
                    · simp only [Act.put, List.setIfInBounds_toArray, List.set_cons_zero, List.set_cons_succ, i64_w, i32_w]
                      rfl
                    refine pure_ (i := 34) (N := some 165) (v := ?_) (a' := ?_) #[true, true, true, true, true, true, true, true, true, true, true, true, true, true, true, true, true, true, true, true, true, true, true, true, true, true, true, true, true, true, true, true, true, true, true, false, false, false, false, false] rfl rfl (by as_aux_lemma => kernel_rfl) (fun _ _ _ h => h) (Or.inl ⟨by rfl, ?_⟩) ?_ ?_
                    rotate_left
                    · intro w'
                      go_simp
                      first | done | with_reducible rfl
                    rotate_left
                    · simp only [Act.put, List.setIfInBounds_toArray, List.set_cons_zero, List.set_cons_succ, i64_w, i32_w]
                      rfl
                    refine pure_ (i := 35) (N := some 166) (v := ?_) (a' := ?_) #[true, true, true, true, true, true, true, true, true, true, true, true, true, true, true, true, true, true, true, true, true, true, true, true, true, true, true, true, true, true, true, true, true, true, true, true, false, false, false, false] rfl rfl (by as_aux_lemma => kernel_rfl) (fun _ _ _ h => h) (Or.inl ⟨by rfl, ?_⟩) ?_ ?_
                    rotate_left
                    · intro w'
                      go_simp
                      first | done | with_reducible rfl
                    rotate_left
                    · simp only [Act.put, List.setIfInBounds_toArray, List.set_cons_zero, List.set_cons_succ, i64_w, i32_w]
                      rfl
                    refine take_ (i := 36) (N := some 167) (v := ?_) (a' := ?_) #[true, true, true, true, true, true, true, true, true, true, true, true, true, true, true, true, true, true, true, true, true, true, true, true, true, true, true, true, true, true, true, true, true, true, true, true, true, false, false, false] rfl rfl (by as_aux_lemma => kernel_rfl) (fun _ _ _ h => h) (Or.inl ⟨by rfl, ?_⟩) hHeld5 ?_ ?_
                    rotate_left
                    · rintro w' ⟨hbe, s0, s1, s2, s3⟩
                      go_simp
                      first | done | with_reducible rfl
                    rotate_left
                    · simp only [Act.put, List.setIfInBounds_toArray, List.set_cons_zero, List.set_cons_succ, i64_w, i32_w]
                      rfl
                    refine one_ (i := 37) (N := some 168) #[true, true, true, true, true, true, true, true, true, true, true, true, true, true, true, true, true, true, true, true, true, true, true, true, true, true, true, true, true, true, true, true, true, true, true, true, true, true, false, false] rfl rfl (by as_aux_lemma => kernel_rfl) (by decide) (fun K hK => ?_)
                    refine goes_ Tryd.func26 (by as_aux_lemma => kernel_rfl) rfl #[.pointer (some ⟨g2, 0, none⟩)] (by rfl) rfl rfl (by (try simp only [List.map_toArray, List.map_cons, List.map_nil]); first | done | rfl) ?_
                    refine ((HPE.out.below HB9.out).b (fun S h => done_any w9 w1.heap.size g2 S b2 h)).mono ?_
                    rintro r w10 ⟨rfl, hB10⟩
                    rw [decide_eq_true HEE.out.2.2.2]
                    have HB10 := Lib.hid (HB9.out.trans (hB10.mono HB9.out.size))
                    clear hB10 hHeld5
                    refine ⟨_, rfl, ?_⟩
                    refine hK.out _ _ (HS.out _ HB10.out) (fun hHeld6 => ?_)
                    clear hK K
                    refine norm_ (a' := ?_) ?_ ?_
                    rotate_left
                    · show Act.put _ (some 168) _ = _
                      simp only [Act.put, List.setIfInBounds_toArray, List.set_cons_zero, List.set_cons_succ, i64_w, i32_w]
                      rfl
                    refine pure_ (i := 38) (N := some 169) (v := ?_) (a' := ?_) #[true, true, true, true, true, true, true, true, true, true, true, true, true, true, true, true, true, true, true, true, true, true, true, true, true, true, true, true, true, true, true, true, true, true, true, true, true, true, true, false] rfl rfl (by as_aux_lemma => kernel_rfl) (fun _ _ _ h => h) (Or.inl ⟨by rfl, ?_⟩) ?_ ?_
                    rotate_left
                    · intro w'
                      go_simp
                      first | done | with_reducible rfl
                    rotate_left
                    · simp only [Act.put, List.setIfInBounds_toArray, List.set_cons_zero, List.set_cons_succ, i64_w, i32_w]
                      rfl
                    refine tail_list 39 (t := [39]) (fuel := 0) rfl rfl rfl (by as_aux_lemma => kernel_rfl) (by decide) ?_
                    go_wp2_with fail
                    go_ret
                    exact ⟨rfl, HB1.out.trans ((HPE.out.hB.trans (HB10.out.mono HPE.out.hB.size)).mono HB1.out.size)⟩
end Go.Proofs.YthfgkkpibkkiaaaDoor
