/- SessionPlays' contract. -/
import Derived.Test.YthfgkkpibkkiaaaDoorSessO
set_option linter.unusedVariables false
set_option linter.unusedSimpArgs false
namespace Go.Proofs.YthfgkkpibkkiaaaDoor
attribute [local go_sem] Go.Proofs.YthfgkkpibkkiaaaDoorW.PrintMore.min_two Go.Proofs.YthfgkkpibkkiaaaDoorW.PrintMore.min2_int
open Go.RowKit Go.Proofs.YthfgkkpibkkiaaaDoorW.PrintWords Go.Proofs.YthfgkkpibkkiaaaDoorW.PrintLast Go.Proofs.YthfgkkpibkkiaaaDoor.PSessionPlays

set_option maxRecDepth 100000 in
set_option maxHeartbeats 8000000 in
theorem plays_law (w : World) (ep : Int) (we : (Lit.int .i64 ep).wf = true) (xs : List (Int × S24)) (A : Option Addr) (n c : Nat) (h : kOps.K w xs [.slice A n c]) (g : goodOps xs) (hG : Ground w) :
    Calls Tryd.prog 4 #[.int .i64 ep, .slice A n c] w fun e w' => e = .returned (.bool true) ∧ Below w.heap.size w w' := by
  obtain ⟨hn, hc, hX⟩ := ops_open h
  have HX := Lib.hid hX
  have HN := Lib.hid (And.intro hn hc)
  have HH := Lib.hid (head_any w hG)
  have HG := Lib.hid g
  have hnb : n ≤ 140737488351232 := by have := g.1; omega
  clear h g hG hX hn hc we
  go_enter Tryd.func4, Tryd.ntmps4
  go_wp2_with fail
  refine HH.out.mono ?_
  rintro r w1 ⟨rfl, hB1⟩
  have HB1 := Lib.hid hB1
  clear hB1 HH
  go_wp2_with fail
  refine (new_any ep w1).mono ?_
  rintro r w2 (⟨hep, rfl, hB2⟩ | ⟨hep, g1, rfl, hE, hB2⟩)
  · have HB2 := Lib.hid hB2
    have HEP := Lib.hid hep
    clear hB2 hep
    go_wp2_with fail
    refine (rnew_any ep w2).mono ?_
    rintro r w3 (⟨hep, rfl, hB3⟩ | ⟨hep, g2, rfl, hE3, hB3⟩)
    · have HB3 := Lib.hid (HB2.out.trans (hB3.mono HB2.out.size))
      clear hB3 HB2 hep
      go_wp2_with fail
      go_loopw [8, 9] (fun vn vi wr => ∃ (N i : Nat), vn = .int .i64 (N : Int) ∧ vi = .int .i64 (i : Int) ∧ N ≤ n + 80000 ∧ i ≤ n ∧ Below w1.heap.size w1 wr) (fun _ vi _ => n - (intOf vi).toNat)
      case atStart => exact ⟨n, 0, rfl, rfl, by omega, by omega, HB3.out⟩
      case round =>
        obtain ⟨N, i, rfl, rfl, hN, hi, hB⟩ := hrel
        have HD := Lib.hid hB
        clear hB HB3
        by_cases hin : i < n
        · have d1 : (i : Int) < (n : Int) := by omega
          by_cases hgr : N < 40000
          · have d2 : (N : Int) < (40000 : Int) := by omega
            obtain ⟨qx, hqx⟩ : ∃ x, xs[i]? = some x := ⟨_, List.getElem?_eq_getElem (by have := HN.out.1; omega)⟩
            obtain ⟨q, x⟩ := qx
            obtain ⟨ax, B, d, rfl, x0, x1, x2, x3, x4, x5, x6, x7⟩ := at_op (Kd.C_below HX.out (HB1.out.trans (HD.out.mono HB1.out.size))) i hin q x hqx
            obtain ⟨m, hm⟩ : ∃ m, m = x.f4.length := ⟨_, rfl⟩
            rw [← hm] at x5 x6 x7
            obtain ⟨mm, hmm, hme⟩ : ∃ q : Nat, q ≤ 40000 ∧ (if (40000 : Int) < (m : Int) then (40000 : Int) else (m : Int)) = (q : Int) := ⟨min m 40000, by omega, by split <;> omega⟩
            clear x0 x1 x2 x3 x4 x6 x7 hm hqx
            go_wp2_with fail
            refine ⟨⟨N + mm, i + 1, by go_num, by go_num, by omega, by omega, HD.out⟩, by simp [intOf]; omega⟩
          · have d2 : ¬ (N : Int) < (40000 : Int) := by omega
            go_wp2_with fail
            go_ret
            exact ⟨rfl, HB1.out.trans (HD.out.mono HB1.out.size)⟩
        · have d1 : ¬ (i : Int) < (n : Int) := by omega
          go_wp2_with fail
          go_ret
          exact ⟨rfl, HB1.out.trans (HD.out.mono HB1.out.size)⟩
    · exact absurd hep (by rw [HEP.out]; simp)
  have HEP := Lib.hid hep
  have HE := Lib.hid (And.intro hE hB2)
  clear hE hB2 hep
  go_wp2_with fail
  refine (rnew_any ep w2).mono ?_
  rintro r w3 (⟨hep, rfl, hB3⟩ | ⟨hep, g2, rfl, hE3, hB3⟩)
  · exact absurd hep (by rw [HEP.out]; simp)
  have HD3 := Lib.hid (Duo.made HE.out.1 HE.out.2 hE3 hB3)
  clear hep hE3 hB3 HE
  go_wp2_with fail
  go_loopw [8, 9] (fun vn vi wr => ∃ (N i : Nat), vn = .int .i64 (N : Int) ∧ vi = .int .i64 (i : Int) ∧ N ≤ n + 80000 ∧ i ≤ n ∧ Duo 77 47 w1 wr g1 g2 ⟨ep, [], 0, []⟩ ⟨ep, [], 0, []⟩) (fun _ vi _ => n - (intOf vi).toNat)
  case atStart => exact ⟨n, 0, rfl, rfl, by omega, by omega, HD3.out⟩
  case round =>
    obtain ⟨N, i, rfl, rfl, hN, hi, hD⟩ := hrel
    have HD := Lib.hid hD
    clear hD HD3
    by_cases hlo : i < n ∧ N < 40000
    · obtain ⟨hin, hgr⟩ := hlo
      have d1 : (i : Int) < (n : Int) := by omega
      have d2 : (N : Int) < (40000 : Int) := by omega
      obtain ⟨qx, hqx⟩ : ∃ x, xs[i]? = some x := ⟨_, List.getElem?_eq_getElem (by have := HN.out.1; omega)⟩
      obtain ⟨q, x⟩ := qx
      obtain ⟨ax, B, d, rfl, x0, x1, x2, x3, x4, x5, x6, x7⟩ := at_op (Kd.C_below HX.out (HB1.out.trans (HD.out.hB.mono HB1.out.size))) i hin q x hqx
      have hgx : goodF x := (HG.out.2 (q, x) (List.mem_of_getElem? hqx)).2
      have hlx : x.f4.length ≤ 140737488351232 := by have := hgx.2.2.2.2.1; omega
      obtain ⟨m, hm⟩ : ∃ m, m = x.f4.length := ⟨_, rfl⟩
      rw [← hm] at x5 x6 x7 hlx
      obtain ⟨mm, hmm, hme⟩ : ∃ q : Nat, q ≤ 40000 ∧ (if (40000 : Int) < (m : Int) then (40000 : Int) else (m : Int)) = (q : Int) := ⟨min m 40000, by omega, by split <;> omega⟩
      clear x0 x1 x2 x3 x4 x6 x7 hm hqx hgx hlx
      go_wp2_with fail
      refine ⟨⟨N + mm, i + 1, by go_num, by go_num, by omega, by omega, HD.out⟩, by simp [intOf]; omega⟩
    · have d1 : (i : Int) < (n : Int) → ¬ (N : Int) < (40000 : Int) := by omega
      have HBE := Lib.hid (HB1.out.trans (HD.out.hB.mono HB1.out.size))
      by_cases hbig : 40000 ≤ N ∨ 300 < n
      · by_cases hin : i < n
        · have d0 : (i : Int) < (n : Int) := by omega
          have d2 := d1 d0
          have d3 : (40000 : Int) ≤ (N : Int) := by omega
          clear d1
          go_wp2_with fail
          go_ret
          exact ⟨rfl, HBE.out⟩
        · have d0 : ¬ (i : Int) < (n : Int) := by omega
          clear d1
          by_cases hbN : 40000 ≤ N
          · have d3 : (40000 : Int) ≤ (N : Int) := by omega
            go_wp2_with fail
            go_ret
            exact ⟨rfl, HBE.out⟩
          · have d3 : ¬ (40000 : Int) ≤ (N : Int) := by omega
            have d4 : (300 : Int) < (n : Int) := by omega
            go_wp2_with fail
            go_ret
            exact ⟨rfl, HBE.out⟩
      · have d0 : ¬ (i : Int) < (n : Int) := by omega
        have d3 : ¬ (40000 : Int) ≤ (N : Int) := by omega
        have d4 : ¬ (300 : Int) < (n : Int) := by omega
        have hn3 : n ≤ 300 := by omega
        clear d1 hlo hbig HBE
        go_wp2_with fail
        go_loopw [10] (fun vi wr => ∃ (i : Nat) (e : E), vi = .int .i64 (i : Int) ∧ i ≤ n ∧ Fine e i ∧ Duo 77 47 w1 wr g1 g2 e e) (fun vi _ => n - (intOf vi).toNat)
        case atStart => exact ⟨0, _, rfl, by omega, Fine.new ep, HD.out⟩
        case round =>
          clear HD hi hN d0 d3 d4
          obtain ⟨i, e, rfl, hi, hF, hD⟩ := hrel
          have HD := Lib.hid hD
          have HF := Lib.hid hF
          clear hD hF
          by_cases hin : i < n
          · have d1 : (i : Int) < (n : Int) := by omega
            obtain ⟨qx, hqx⟩ : ∃ x, xs[i]? = some x := ⟨_, List.getElem?_eq_getElem (by have := HN.out.1; omega)⟩
            obtain ⟨q, x⟩ := qx
            obtain ⟨ax, B, d, rfl, x0, x1, x2, x3, x4, x5, x6, x7⟩ := at_op (Kd.C_below HX.out (HB1.out.trans (HD.out.hB.mono HB1.out.size))) i hin q x hqx
            have hgx : goodF x := (HG.out.2 (q, x) (List.mem_of_getElem? hqx)).2
            have hlx : x.f4.length ≤ 140737488351232 := by have := hgx.2.2.2.2.1; omega
            obtain ⟨m, hm⟩ : ∃ m, m = x.f4.length := ⟨_, rfl⟩
            rw [← hm] at x5 x6 x7 hlx
            have HC := Lib.hid (And.intro x7 (And.intro x6 (And.intro hm.symm hlx)))
            have HQX := Lib.hid hqx
            have HM := Lib.hid hm
            clear x6 x7 hm hqx hgx hlx
            have hw2 : w1.heap.size ≤ wr.heap.size := HD.out.hB.size
            by_cases hsend : q = 0 ∨ q = 1
            · have dq : (q == 0) = true ∨ ((q == 0) = false ∧ (q == 1) = true) := by
                rcases hsend with rfl | rfl
                · exact .inl rfl
                · exact .inr ⟨rfl, rfl⟩
              clear hsend x1 x2 x3 x4
              rcases dq with dq | ⟨dq, dq2⟩
              · go_wp2_with fail
                refine (HD.out.step (fun S h => send_any _ w1.heap.size g1 S e h HF.out.s B m d x.f4 HC.out.2.2.1 HC.out.1 HC.out.2.1 HC.out.2.2.2)).mono ?_
                rintro r w4 ⟨rfl, hD4⟩
                have HD4 := Lib.hid hD4
                obtain ⟨ax', B', d', hax, y0, y1, y2, y3, y4, y5, y6, y7⟩ := at_op (Kd.C_below HX.out (HB1.out.trans (HD4.out.hB.mono HB1.out.size))) i hin q x HQX.out
                rw [← HM.out] at y5 y6 y7
                obtain rfl : ax = ax' := Option.some.inj hax
                clear hD4 x0 x5 hax y1 y2 y3 y4
                have HC4 := Lib.hid (And.intro y7 y6)
                clear y6 y7
                go_wp2_with fail
                refine (HD4.out.swap.step (fun S h => rsend_any _ w1.heap.size g2 S e h HF.out.s B' m d' x.f4 HC.out.2.2.1 HC4.out.1 HC4.out.2 HC.out.2.2.2)).mono ?_
                rintro r W ⟨rfl, hD5⟩
                have HD := Lib.hid hD5.swap
                have dbb : (sendOk e x.f4 != sendOk e x.f4) = false := by simp
                clear hD5 HD4 HC4 y0 y5
                obtain ⟨e2, he2⟩ : ∃ e2, e2 = sendE e x.f4 := ⟨_, rfl⟩
                rw [← he2] at HD
                have HF2 := Lib.hid (show Fine e2 (i + 1) from by rw [he2]; exact HF.out.send x.f4)
                clear he2
                obtain ⟨As, cs, Ac, cc, k2, k1, k3, k4, k5⟩ := HD.out.cells
                have HCM := Lib.hid (And.intro k4 k5)
                obtain ⟨th, hth⟩ : ∃ t, t = e2.there := ⟨_, rfl⟩
                obtain ⟨ms, hms⟩ : ∃ t, t = e2.sent.length := ⟨_, rfl⟩
                rw [← hth] at k2
                rw [← hms] at k1
                have HTM := Lib.hid (And.intro hth hms)
                have hz2 := HD.out.hB.size
                have hg2 : g2 < W.heap.size := World.block_lt_of_cell? W _ k2
                clear hth hms k3 k4 k5
                go_upto_region 30 with (fail)
                refine start_ (S := fun w' => Below W.heap.size W w' ∧ w'.cell? ⟨g2, 2, none⟩ = some (.int .i64 (th : Int)) ∧ w'.cell? ⟨g2, 1, none⟩ = some (.slice As ms cs)) (ds := [12]) (n := 13) #[false, false, false, false, false, false, false, false, false, false, false, false, false] rfl rfl rfl ?hS0 (fun hHeld => ?hrun)
                case hS0 => exact ⟨(Below.refl _ _).drew, k2, k1⟩
                case hrun =>
                  refine pure_ (i := 0) (N := some 122) (v := ?_) (a' := ?_) #[true, false, false, false, false, false, false, false, false, false, false, false, false] rfl rfl (by kernel_rfl) (fun _ _ _ h => h) (Or.inl ⟨by rfl, ?_⟩) ?_ ?_
                  rotate_left
                  · intro w'
                    go_simp
                    first | done | with_reducible rfl
                  rotate_left
                  · simp only [Act.put, List.setIfInBounds_toArray, List.set_cons_zero, List.set_cons_succ, i64_w, i32_w]
                    rfl
                  refine pure_ (i := 2) (N := some 124) (v := ?_) (a' := ?_) #[true, false, true, false, false, false, false, false, false, false, false, false, false] rfl rfl (by kernel_rfl) (fun _ _ _ h => h) (Or.inl ⟨by rfl, ?_⟩) ?_ ?_
                  rotate_left
                  · intro w'
                    go_simp
                    first | done | with_reducible rfl
                  rotate_left
                  · simp only [Act.put, List.setIfInBounds_toArray, List.set_cons_zero, List.set_cons_succ, i64_w, i32_w]
                    rfl
                  refine pure_ (i := 3) (N := some 125) (v := ?_) (a' := ?_) #[true, false, true, true, false, false, false, false, false, false, false, false, false] rfl rfl (by kernel_rfl) (fun _ _ _ h => h) (Or.inl ⟨by rfl, ?_⟩) ?_ ?_
                  rotate_left
                  · intro w'
                    go_simp
                    first | done | with_reducible rfl
                  rotate_left
                  · simp only [Act.put, List.setIfInBounds_toArray, List.set_cons_zero, List.set_cons_succ, i64_w, i32_w]
                    rfl
                  refine pure_ (i := 4) (N := some 126) (v := ?_) (a' := ?_) #[true, false, true, true, true, false, false, false, false, false, false, false, false] rfl rfl (by kernel_rfl) (fun _ _ _ h => h) (Or.inl ⟨by rfl, ?_⟩) ?_ ?_
                  rotate_left
                  · intro w'
                    go_simp
                    first | done | with_reducible rfl
                  rotate_left
                  · simp only [Act.put, List.setIfInBounds_toArray, List.set_cons_zero, List.set_cons_succ, i64_w, i32_w]
                    rfl
                  refine take_ (i := 5) (N := some 127) (v := ?_) (a' := ?_) #[true, false, true, true, true, true, false, false, false, false, false, false, false] rfl rfl (by kernel_rfl) (fun _ _ _ h => h) (Or.inl ⟨by rfl, ?_⟩) hHeld ?_ ?_
                  rotate_left
                  · rintro w' ⟨hbe, s0, s1⟩
                    go_simp
                    first | done | with_reducible rfl
                  rotate_left
                  · simp only [Act.put, List.setIfInBounds_toArray, List.set_cons_zero, List.set_cons_succ, i64_w, i32_w]
                    rfl
                  refine pure_ (i := 6) (N := some 128) (v := ?_) (a' := ?_) #[true, false, true, true, true, true, true, false, false, false, false, false, false] rfl rfl (by kernel_rfl) (fun _ _ _ h => h) (Or.inl ⟨by rfl, ?_⟩) ?_ ?_
                  rotate_left
                  · intro w'
                    go_simp
                    first | done | with_reducible rfl
                  rotate_left
                  · simp only [Act.put, List.setIfInBounds_toArray, List.set_cons_zero, List.set_cons_succ, i64_w, i32_w]
                    rfl
                  refine pure_ (i := 7) (N := some 129) (v := ?_) (a' := ?_) #[true, false, true, true, true, true, true, true, false, false, false, false, false] rfl rfl (by kernel_rfl) (fun _ _ _ h => h) (Or.inl ⟨by rfl, ?_⟩) ?_ ?_
                  rotate_left
                  · intro w'
                    go_simp
                    first | done | with_reducible rfl
                  rotate_left
                  · simp only [Act.put, List.setIfInBounds_toArray, List.set_cons_zero, List.set_cons_succ, i64_w, i32_w]
                    rfl
                  refine pure_ (i := 8) (N := some 130) (v := ?_) (a' := ?_) #[true, false, true, true, true, true, true, true, true, false, false, false, false] rfl rfl (by kernel_rfl) (fun _ _ _ h => h) (Or.inl ⟨by rfl, ?_⟩) ?_ ?_
                  rotate_left
                  · intro w'
                    go_simp
                    first | done | with_reducible rfl
                  rotate_left
                  · simp only [Act.put, List.setIfInBounds_toArray, List.set_cons_zero, List.set_cons_succ, i64_w, i32_w]
                    rfl
                  refine take_ (i := 9) (N := some 131) (v := ?_) (a' := ?_) #[true, false, true, true, true, true, true, true, true, true, false, false, false] rfl rfl (by kernel_rfl) (fun _ _ _ h => h) (Or.inl ⟨by rfl, ?_⟩) hHeld ?_ ?_
                  rotate_left
                  · rintro w' ⟨hbe, s0, s1⟩
                    go_simp
                    first | done | with_reducible rfl
                  rotate_left
                  · simp only [Act.put, List.setIfInBounds_toArray, List.set_cons_zero, List.set_cons_succ, i64_w, i32_w]
                    rfl
                  refine pure_ (i := 10) (N := some 132) (v := ?_) (a' := ?_) #[true, false, true, true, true, true, true, true, true, true, true, false, false] rfl rfl (by kernel_rfl) (fun _ _ _ h => h) (Or.inl ⟨by rfl, ?_⟩) ?_ ?_
                  rotate_left
                  · intro w'
                    go_simp
                    first | done | with_reducible rfl
                  rotate_left
                  · simp only [Act.put, List.setIfInBounds_toArray, List.set_cons_zero, List.set_cons_succ, i64_w, i32_w]
                    rfl
                  refine pure_ (i := 11) (N := some 133) (v := ?_) (a' := ?_) #[true, false, true, true, true, true, true, true, true, true, true, true, false] rfl rfl (by kernel_rfl) (fun _ _ _ h => h) (Or.inl ⟨by rfl, ?_⟩) ?_ ?_
                  rotate_left
                  · intro w'
                    go_simp
                    first | done | with_reducible rfl
                  rotate_left
                  · simp only [Act.put, List.setIfInBounds_toArray, List.set_cons_zero, List.set_cons_succ, i64_w, i32_w]
                    rfl
                  refine one_ (i := 1) (N := some 123) #[true, true, true, true, true, true, true, true, true, true, true, true, false] rfl rfl (by kernel_rfl) (by decide) (fun K hK => ?_)
                  refine goes_ Tryd.func26 (by kernel_rfl) rfl #[.pointer (some ⟨g1, 0, none⟩)] (by rfl) rfl rfl (by (try simp only [List.map_toArray, List.map_cons, List.map_nil]); first | done | rfl) ?_
                  refine ((HD.out.below ((Below.refl W.heap.size W).drew)).look (fun S h => done_any W.drew w1.heap.size g1 S _ h)).mono ?_
                  rintro r W2 ⟨rfl, hB9⟩
                  have HB9 := Lib.hid (show Below W.heap.size W W2 from ((Below.refl _ _).drew).trans hB9)
                  rw [← HTM.out.1, ← HTM.out.2]
                  clear hB9 hHeld
                  refine ⟨_, rfl, ?_⟩
                  refine hK.out _ _ ⟨HB9.out, (HB9.out.cell (p := ⟨g2, 2, none⟩) hg2).trans k2, (HB9.out.cell (p := ⟨g2, 1, none⟩) hg2).trans k1⟩ (fun hHeld1 => ?_)
                  clear hK K
                  refine norm_ (a' := ?_) ?_ ?_
                  rotate_left
                  · show Act.put _ (some 123) _ = _
                    simp only [Act.put, List.setIfInBounds_toArray, List.set_cons_zero, List.set_cons_succ, i64_w, i32_w]
                    rfl
                  refine tail_list 12 (t := [12]) (fuel := 0) rfl rfl rfl (by kernel_rfl) (by decide) ?_
                  have dbe : (decide (th = ms) == ((th : Int) == (ms : Int))) = true := by
                    rw [beq_iff_eq, Bool.eq_iff_iff, decide_eq_true_iff, beq_iff_eq]
                    omega
                  have dbn : (decide (th = ms) != ((th : Int) == (ms : Int))) = false := by rw [bne, dbe]; rfl
                  have HD2 := Lib.hid (HD.out.below HB9.out)
                  clear hHeld1 k1 k2 HB9 HCM HTM hz2 hg2
                  go_wp2_with fail
                  refine ⟨⟨i + 1, e2, by go_num, by omega, HF2.out, HD2.out⟩, by simp [intOf]; omega⟩
              · go_wp2_with fail
                refine (HD.out.step (fun S h => send_any _ w1.heap.size g1 S e h HF.out.s B m d x.f4 HC.out.2.2.1 HC.out.1 HC.out.2.1 HC.out.2.2.2)).mono ?_
                rintro r w4 ⟨rfl, hD4⟩
                have HD4 := Lib.hid hD4
                obtain ⟨ax', B', d', hax, y0, y1, y2, y3, y4, y5, y6, y7⟩ := at_op (Kd.C_below HX.out (HB1.out.trans (HD4.out.hB.mono HB1.out.size))) i hin q x HQX.out
                rw [← HM.out] at y5 y6 y7
                obtain rfl : ax = ax' := Option.some.inj hax
                clear hD4 x0 x5 hax y1 y2 y3 y4
                have HC4 := Lib.hid (And.intro y7 y6)
                clear y6 y7
                go_wp2_with fail
                refine (HD4.out.swap.step (fun S h => rsend_any _ w1.heap.size g2 S e h HF.out.s B' m d' x.f4 HC.out.2.2.1 HC4.out.1 HC4.out.2 HC.out.2.2.2)).mono ?_
                rintro r W ⟨rfl, hD5⟩
                have HD := Lib.hid hD5.swap
                have dbb : (sendOk e x.f4 != sendOk e x.f4) = false := by simp
                clear hD5 HD4 HC4 y0 y5
                obtain ⟨e2, he2⟩ : ∃ e2, e2 = sendE e x.f4 := ⟨_, rfl⟩
                rw [← he2] at HD
                have HF2 := Lib.hid (show Fine e2 (i + 1) from by rw [he2]; exact HF.out.send x.f4)
                clear he2
                obtain ⟨As, cs, Ac, cc, k2, k1, k3, k4, k5⟩ := HD.out.cells
                have HCM := Lib.hid (And.intro k4 k5)
                obtain ⟨th, hth⟩ : ∃ t, t = e2.there := ⟨_, rfl⟩
                obtain ⟨ms, hms⟩ : ∃ t, t = e2.sent.length := ⟨_, rfl⟩
                rw [← hth] at k2
                rw [← hms] at k1
                have HTM := Lib.hid (And.intro hth hms)
                have hz2 := HD.out.hB.size
                have hg2 : g2 < W.heap.size := World.block_lt_of_cell? W _ k2
                clear hth hms k3 k4 k5
                go_upto_region 30 with (fail)
                refine start_ (S := fun w' => Below W.heap.size W w' ∧ w'.cell? ⟨g2, 2, none⟩ = some (.int .i64 (th : Int)) ∧ w'.cell? ⟨g2, 1, none⟩ = some (.slice As ms cs)) (ds := [12]) (n := 13) #[false, false, false, false, false, false, false, false, false, false, false, false, false] rfl rfl rfl ?hS0 (fun hHeld => ?hrun)
                case hS0 => exact ⟨(Below.refl _ _).drew, k2, k1⟩
                case hrun =>
                  refine pure_ (i := 0) (N := some 122) (v := ?_) (a' := ?_) #[true, false, false, false, false, false, false, false, false, false, false, false, false] rfl rfl (by kernel_rfl) (fun _ _ _ h => h) (Or.inl ⟨by rfl, ?_⟩) ?_ ?_
                  rotate_left
                  · intro w'
                    go_simp
                    first | done | with_reducible rfl
                  rotate_left
                  · simp only [Act.put, List.setIfInBounds_toArray, List.set_cons_zero, List.set_cons_succ, i64_w, i32_w]
                    rfl
                  refine pure_ (i := 2) (N := some 124) (v := ?_) (a' := ?_) #[true, false, true, false, false, false, false, false, false, false, false, false, false] rfl rfl (by kernel_rfl) (fun _ _ _ h => h) (Or.inl ⟨by rfl, ?_⟩) ?_ ?_
                  rotate_left
                  · intro w'
                    go_simp
                    first | done | with_reducible rfl
                  rotate_left
                  · simp only [Act.put, List.setIfInBounds_toArray, List.set_cons_zero, List.set_cons_succ, i64_w, i32_w]
                    rfl
                  refine pure_ (i := 3) (N := some 125) (v := ?_) (a' := ?_) #[true, false, true, true, false, false, false, false, false, false, false, false, false] rfl rfl (by kernel_rfl) (fun _ _ _ h => h) (Or.inl ⟨by rfl, ?_⟩) ?_ ?_
                  rotate_left
                  · intro w'
                    go_simp
                    first | done | with_reducible rfl
                  rotate_left
                  · simp only [Act.put, List.setIfInBounds_toArray, List.set_cons_zero, List.set_cons_succ, i64_w, i32_w]
                    rfl
                  refine pure_ (i := 4) (N := some 126) (v := ?_) (a' := ?_) #[true, false, true, true, true, false, false, false, false, false, false, false, false] rfl rfl (by kernel_rfl) (fun _ _ _ h => h) (Or.inl ⟨by rfl, ?_⟩) ?_ ?_
                  rotate_left
                  · intro w'
                    go_simp
                    first | done | with_reducible rfl
                  rotate_left
                  · simp only [Act.put, List.setIfInBounds_toArray, List.set_cons_zero, List.set_cons_succ, i64_w, i32_w]
                    rfl
                  refine take_ (i := 5) (N := some 127) (v := ?_) (a' := ?_) #[true, false, true, true, true, true, false, false, false, false, false, false, false] rfl rfl (by kernel_rfl) (fun _ _ _ h => h) (Or.inl ⟨by rfl, ?_⟩) hHeld ?_ ?_
                  rotate_left
                  · rintro w' ⟨hbe, s0, s1⟩
                    go_simp
                    first | done | with_reducible rfl
                  rotate_left
                  · simp only [Act.put, List.setIfInBounds_toArray, List.set_cons_zero, List.set_cons_succ, i64_w, i32_w]
                    rfl
                  refine pure_ (i := 6) (N := some 128) (v := ?_) (a' := ?_) #[true, false, true, true, true, true, true, false, false, false, false, false, false] rfl rfl (by kernel_rfl) (fun _ _ _ h => h) (Or.inl ⟨by rfl, ?_⟩) ?_ ?_
                  rotate_left
                  · intro w'
                    go_simp
                    first | done | with_reducible rfl
                  rotate_left
                  · simp only [Act.put, List.setIfInBounds_toArray, List.set_cons_zero, List.set_cons_succ, i64_w, i32_w]
                    rfl
                  refine pure_ (i := 7) (N := some 129) (v := ?_) (a' := ?_) #[true, false, true, true, true, true, true, true, false, false, false, false, false] rfl rfl (by kernel_rfl) (fun _ _ _ h => h) (Or.inl ⟨by rfl, ?_⟩) ?_ ?_
                  rotate_left
                  · intro w'
                    go_simp
                    first | done | with_reducible rfl
                  rotate_left
                  · simp only [Act.put, List.setIfInBounds_toArray, List.set_cons_zero, List.set_cons_succ, i64_w, i32_w]
                    rfl
                  refine pure_ (i := 8) (N := some 130) (v := ?_) (a' := ?_) #[true, false, true, true, true, true, true, true, true, false, false, false, false] rfl rfl (by kernel_rfl) (fun _ _ _ h => h) (Or.inl ⟨by rfl, ?_⟩) ?_ ?_
                  rotate_left
                  · intro w'
                    go_simp
                    first | done | with_reducible rfl
                  rotate_left
                  · simp only [Act.put, List.setIfInBounds_toArray, List.set_cons_zero, List.set_cons_succ, i64_w, i32_w]
                    rfl
                  refine take_ (i := 9) (N := some 131) (v := ?_) (a' := ?_) #[true, false, true, true, true, true, true, true, true, true, false, false, false] rfl rfl (by kernel_rfl) (fun _ _ _ h => h) (Or.inl ⟨by rfl, ?_⟩) hHeld ?_ ?_
                  rotate_left
                  · rintro w' ⟨hbe, s0, s1⟩
                    go_simp
                    first | done | with_reducible rfl
                  rotate_left
                  · simp only [Act.put, List.setIfInBounds_toArray, List.set_cons_zero, List.set_cons_succ, i64_w, i32_w]
                    rfl
                  refine pure_ (i := 10) (N := some 132) (v := ?_) (a' := ?_) #[true, false, true, true, true, true, true, true, true, true, true, false, false] rfl rfl (by kernel_rfl) (fun _ _ _ h => h) (Or.inl ⟨by rfl, ?_⟩) ?_ ?_
                  rotate_left
                  · intro w'
                    go_simp
                    first | done | with_reducible rfl
                  rotate_left
                  · simp only [Act.put, List.setIfInBounds_toArray, List.set_cons_zero, List.set_cons_succ, i64_w, i32_w]
                    rfl
                  refine pure_ (i := 11) (N := some 133) (v := ?_) (a' := ?_) #[true, false, true, true, true, true, true, true, true, true, true, true, false] rfl rfl (by kernel_rfl) (fun _ _ _ h => h) (Or.inl ⟨by rfl, ?_⟩) ?_ ?_
                  rotate_left
                  · intro w'
                    go_simp
                    first | done | with_reducible rfl
                  rotate_left
                  · simp only [Act.put, List.setIfInBounds_toArray, List.set_cons_zero, List.set_cons_succ, i64_w, i32_w]
                    rfl
                  refine one_ (i := 1) (N := some 123) #[true, true, true, true, true, true, true, true, true, true, true, true, false] rfl rfl (by kernel_rfl) (by decide) (fun K hK => ?_)
                  refine goes_ Tryd.func26 (by kernel_rfl) rfl #[.pointer (some ⟨g1, 0, none⟩)] (by rfl) rfl rfl (by (try simp only [List.map_toArray, List.map_cons, List.map_nil]); first | done | rfl) ?_
                  refine ((HD.out.below ((Below.refl W.heap.size W).drew)).look (fun S h => done_any W.drew w1.heap.size g1 S _ h)).mono ?_
                  rintro r W2 ⟨rfl, hB9⟩
                  have HB9 := Lib.hid (show Below W.heap.size W W2 from ((Below.refl _ _).drew).trans hB9)
                  rw [← HTM.out.1, ← HTM.out.2]
                  clear hB9 hHeld
                  refine ⟨_, rfl, ?_⟩
                  refine hK.out _ _ ⟨HB9.out, (HB9.out.cell (p := ⟨g2, 2, none⟩) hg2).trans k2, (HB9.out.cell (p := ⟨g2, 1, none⟩) hg2).trans k1⟩ (fun hHeld1 => ?_)
                  clear hK K
                  refine norm_ (a' := ?_) ?_ ?_
                  rotate_left
                  · show Act.put _ (some 123) _ = _
                    simp only [Act.put, List.setIfInBounds_toArray, List.set_cons_zero, List.set_cons_succ, i64_w, i32_w]
                    rfl
                  refine tail_list 12 (t := [12]) (fuel := 0) rfl rfl rfl (by kernel_rfl) (by decide) ?_
                  have dbe : (decide (th = ms) == ((th : Int) == (ms : Int))) = true := by
                    rw [beq_iff_eq, Bool.eq_iff_iff, decide_eq_true_iff, beq_iff_eq]
                    omega
                  have dbn : (decide (th = ms) != ((th : Int) == (ms : Int))) = false := by rw [bne, dbe]; rfl
                  have HD2 := Lib.hid (HD.out.below HB9.out)
                  clear hHeld1 k1 k2 HB9 HCM HTM hz2 hg2
                  go_wp2_with fail
                  refine ⟨⟨i + 1, e2, by go_num, by omega, HF2.out, HD2.out⟩, by simp [intOf]; omega⟩
            · have dq0 : (q == 0) = false := by rw [beq_eq_false_iff_ne]; omega
              have dq1 : (q == 1) = false := by rw [beq_eq_false_iff_ne]; omega
              by_cases htick : q = 2
              · have dq2 : (q == 2) = true := by rw [beq_iff_eq]; exact htick
                clear hsend htick x1 x2 x3 x4 x5
                go_wp2_with fail
                refine (HD.out.look (fun S h => tick_any _ w1.heap.size g1 S e h (by have := HF.out.c; omega) (by have := HF.out.s; omega) (by have := HF.out.t; omega) HF.out.ss)).mono ?_
                rintro r w4 ⟨v, rfl, hR, hB4⟩
                obtain ⟨Av, cv, rfl, hcv, hCv⟩ := Kd.R_reads hR
                have HD4 := Lib.hid (HD.out.below hB4)
                have HT4 := Lib.hid (And.intro hCv hcv)
                clear hR hB4 hCv hcv
                go_wp2_with fail
                refine (HD4.out.swap.look (fun S h => rtick_any _ w1.heap.size g2 S e h (by have := HF.out.c; omega) (by have := HF.out.s; omega) (by have := HF.out.t; omega) HF.out.ss)).mono ?_
                rintro r w5 ⟨v, rfl, hR, hB5⟩
                obtain ⟨Au, cu, rfl, hcu, hCu⟩ := Kd.R_reads hR
                have HD5 := Lib.hid (HD4.out.below hB5)
                have HT5 := Lib.hid (And.intro (Kd.C_below HT4.out.1 hB5) (And.intro HT4.out.2 (And.intro hCu hcu)))
                obtain ⟨L, hL⟩ : ∃ L, L = (tickE e).length := ⟨_, rfl⟩
                rw [← hL] at HT5 ⊢
                have HL := Lib.hid hL
                have hLs : L ≤ 1000000 := by rw [hL]; have := tick_len4 e; omega
                clear hR hB5 hCu hcu HD HD4 HT4 hL
                go_wp2_with fail
                refine (slist_any (tickE e) L HL.out.symm hLs Av Au cv cu w5 HT5.out.1 HT5.out.2.1 HT5.out.2.2.1 HT5.out.2.2.2).mono ?_
                rintro r W ⟨rfl, hB6⟩
                have HD := Lib.hid (HD5.out.below hB6)
                clear hB6 HD5 HT5
                obtain ⟨e2, he2⟩ : ∃ e2, e2 = e := ⟨_, rfl⟩
                rw [← he2] at HD
                have HF2 := Lib.hid (show Fine e2 (i + 1) from by rw [he2]; exact HF.out.more)
                clear he2
                obtain ⟨As, cs, Ac, cc, k2, k1, k3, k4, k5⟩ := HD.out.cells
                have HCM := Lib.hid (And.intro k4 k5)
                obtain ⟨th, hth⟩ : ∃ t, t = e2.there := ⟨_, rfl⟩
                obtain ⟨ms, hms⟩ : ∃ t, t = e2.sent.length := ⟨_, rfl⟩
                rw [← hth] at k2
                rw [← hms] at k1
                have HTM := Lib.hid (And.intro hth hms)
                have hz2 := HD.out.hB.size
                have hg2 : g2 < W.heap.size := World.block_lt_of_cell? W _ k2
                clear hth hms k3 k4 k5
                go_upto_region 30 with (fail)
                refine start_ (S := fun w' => Below W.heap.size W w' ∧ w'.cell? ⟨g2, 2, none⟩ = some (.int .i64 (th : Int)) ∧ w'.cell? ⟨g2, 1, none⟩ = some (.slice As ms cs)) (ds := [12]) (n := 13) #[false, false, false, false, false, false, false, false, false, false, false, false, false] rfl rfl rfl ?hS0 (fun hHeld => ?hrun)
                case hS0 => exact ⟨(Below.refl _ _).drew, k2, k1⟩
                case hrun =>
                  refine pure_ (i := 0) (N := some 122) (v := ?_) (a' := ?_) #[true, false, false, false, false, false, false, false, false, false, false, false, false] rfl rfl (by kernel_rfl) (fun _ _ _ h => h) (Or.inl ⟨by rfl, ?_⟩) ?_ ?_
                  rotate_left
                  · intro w'
                    go_simp
                    first | done | with_reducible rfl
                  rotate_left
                  · simp only [Act.put, List.setIfInBounds_toArray, List.set_cons_zero, List.set_cons_succ, i64_w, i32_w]
                    rfl
                  refine pure_ (i := 2) (N := some 124) (v := ?_) (a' := ?_) #[true, false, true, false, false, false, false, false, false, false, false, false, false] rfl rfl (by kernel_rfl) (fun _ _ _ h => h) (Or.inl ⟨by rfl, ?_⟩) ?_ ?_
                  rotate_left
                  · intro w'
                    go_simp
                    first | done | with_reducible rfl
                  rotate_left
                  · simp only [Act.put, List.setIfInBounds_toArray, List.set_cons_zero, List.set_cons_succ, i64_w, i32_w]
                    rfl
                  refine pure_ (i := 3) (N := some 125) (v := ?_) (a' := ?_) #[true, false, true, true, false, false, false, false, false, false, false, false, false] rfl rfl (by kernel_rfl) (fun _ _ _ h => h) (Or.inl ⟨by rfl, ?_⟩) ?_ ?_
                  rotate_left
                  · intro w'
                    go_simp
                    first | done | with_reducible rfl
                  rotate_left
                  · simp only [Act.put, List.setIfInBounds_toArray, List.set_cons_zero, List.set_cons_succ, i64_w, i32_w]
                    rfl
                  refine pure_ (i := 4) (N := some 126) (v := ?_) (a' := ?_) #[true, false, true, true, true, false, false, false, false, false, false, false, false] rfl rfl (by kernel_rfl) (fun _ _ _ h => h) (Or.inl ⟨by rfl, ?_⟩) ?_ ?_
                  rotate_left
                  · intro w'
                    go_simp
                    first | done | with_reducible rfl
                  rotate_left
                  · simp only [Act.put, List.setIfInBounds_toArray, List.set_cons_zero, List.set_cons_succ, i64_w, i32_w]
                    rfl
                  refine take_ (i := 5) (N := some 127) (v := ?_) (a' := ?_) #[true, false, true, true, true, true, false, false, false, false, false, false, false] rfl rfl (by kernel_rfl) (fun _ _ _ h => h) (Or.inl ⟨by rfl, ?_⟩) hHeld ?_ ?_
                  rotate_left
                  · rintro w' ⟨hbe, s0, s1⟩
                    go_simp
                    first | done | with_reducible rfl
                  rotate_left
                  · simp only [Act.put, List.setIfInBounds_toArray, List.set_cons_zero, List.set_cons_succ, i64_w, i32_w]
                    rfl
                  refine pure_ (i := 6) (N := some 128) (v := ?_) (a' := ?_) #[true, false, true, true, true, true, true, false, false, false, false, false, false] rfl rfl (by kernel_rfl) (fun _ _ _ h => h) (Or.inl ⟨by rfl, ?_⟩) ?_ ?_
                  rotate_left
                  · intro w'
                    go_simp
                    first | done | with_reducible rfl
                  rotate_left
                  · simp only [Act.put, List.setIfInBounds_toArray, List.set_cons_zero, List.set_cons_succ, i64_w, i32_w]
                    rfl
                  refine pure_ (i := 7) (N := some 129) (v := ?_) (a' := ?_) #[true, false, true, true, true, true, true, true, false, false, false, false, false] rfl rfl (by kernel_rfl) (fun _ _ _ h => h) (Or.inl ⟨by rfl, ?_⟩) ?_ ?_
                  rotate_left
                  · intro w'
                    go_simp
                    first | done | with_reducible rfl
                  rotate_left
                  · simp only [Act.put, List.setIfInBounds_toArray, List.set_cons_zero, List.set_cons_succ, i64_w, i32_w]
                    rfl
                  refine pure_ (i := 8) (N := some 130) (v := ?_) (a' := ?_) #[true, false, true, true, true, true, true, true, true, false, false, false, false] rfl rfl (by kernel_rfl) (fun _ _ _ h => h) (Or.inl ⟨by rfl, ?_⟩) ?_ ?_
                  rotate_left
                  · intro w'
                    go_simp
                    first | done | with_reducible rfl
                  rotate_left
                  · simp only [Act.put, List.setIfInBounds_toArray, List.set_cons_zero, List.set_cons_succ, i64_w, i32_w]
                    rfl
                  refine take_ (i := 9) (N := some 131) (v := ?_) (a' := ?_) #[true, false, true, true, true, true, true, true, true, true, false, false, false] rfl rfl (by kernel_rfl) (fun _ _ _ h => h) (Or.inl ⟨by rfl, ?_⟩) hHeld ?_ ?_
                  rotate_left
                  · rintro w' ⟨hbe, s0, s1⟩
                    go_simp
                    first | done | with_reducible rfl
                  rotate_left
                  · simp only [Act.put, List.setIfInBounds_toArray, List.set_cons_zero, List.set_cons_succ, i64_w, i32_w]
                    rfl
                  refine pure_ (i := 10) (N := some 132) (v := ?_) (a' := ?_) #[true, false, true, true, true, true, true, true, true, true, true, false, false] rfl rfl (by kernel_rfl) (fun _ _ _ h => h) (Or.inl ⟨by rfl, ?_⟩) ?_ ?_
                  rotate_left
                  · intro w'
                    go_simp
                    first | done | with_reducible rfl
                  rotate_left
                  · simp only [Act.put, List.setIfInBounds_toArray, List.set_cons_zero, List.set_cons_succ, i64_w, i32_w]
                    rfl
                  refine pure_ (i := 11) (N := some 133) (v := ?_) (a' := ?_) #[true, false, true, true, true, true, true, true, true, true, true, true, false] rfl rfl (by kernel_rfl) (fun _ _ _ h => h) (Or.inl ⟨by rfl, ?_⟩) ?_ ?_
                  rotate_left
                  · intro w'
                    go_simp
                    first | done | with_reducible rfl
                  rotate_left
                  · simp only [Act.put, List.setIfInBounds_toArray, List.set_cons_zero, List.set_cons_succ, i64_w, i32_w]
                    rfl
                  refine one_ (i := 1) (N := some 123) #[true, true, true, true, true, true, true, true, true, true, true, true, false] rfl rfl (by kernel_rfl) (by decide) (fun K hK => ?_)
                  refine goes_ Tryd.func26 (by kernel_rfl) rfl #[.pointer (some ⟨g1, 0, none⟩)] (by rfl) rfl rfl (by (try simp only [List.map_toArray, List.map_cons, List.map_nil]); first | done | rfl) ?_
                  refine ((HD.out.below ((Below.refl W.heap.size W).drew)).look (fun S h => done_any W.drew w1.heap.size g1 S _ h)).mono ?_
                  rintro r W2 ⟨rfl, hB9⟩
                  have HB9 := Lib.hid (show Below W.heap.size W W2 from ((Below.refl _ _).drew).trans hB9)
                  rw [← HTM.out.1, ← HTM.out.2]
                  clear hB9 hHeld
                  refine ⟨_, rfl, ?_⟩
                  refine hK.out _ _ ⟨HB9.out, (HB9.out.cell (p := ⟨g2, 2, none⟩) hg2).trans k2, (HB9.out.cell (p := ⟨g2, 1, none⟩) hg2).trans k1⟩ (fun hHeld1 => ?_)
                  clear hK K
                  refine norm_ (a' := ?_) ?_ ?_
                  rotate_left
                  · show Act.put _ (some 123) _ = _
                    simp only [Act.put, List.setIfInBounds_toArray, List.set_cons_zero, List.set_cons_succ, i64_w, i32_w]
                    rfl
                  refine tail_list 12 (t := [12]) (fuel := 0) rfl rfl rfl (by kernel_rfl) (by decide) ?_
                  have dbe : (decide (th = ms) == ((th : Int) == (ms : Int))) = true := by
                    rw [beq_iff_eq, Bool.eq_iff_iff, decide_eq_true_iff, beq_iff_eq]
                    omega
                  have dbn : (decide (th = ms) != ((th : Int) == (ms : Int))) = false := by rw [bne, dbe]; rfl
                  have HD2 := Lib.hid (HD.out.below HB9.out)
                  clear hHeld1 k1 k2 HB9 HCM HTM hz2 hg2
                  go_wp2_with fail
                  refine ⟨⟨i + 1, e2, by go_num, by omega, HF2.out, HD2.out⟩, by simp [intOf]; omega⟩
              · have dq2 : (q == 2) = false := by rw [beq_eq_false_iff_ne]; exact htick
                clear hsend htick
                go_wp2_with fail
                refine (HD.out.step (fun S h => take_any _ w1.heap.size g1 S e h (by have := HF.out.c; omega) (by have := HF.out.s; omega) x B m d HC.out.2.2.1 HC.out.1 HC.out.2.1 HC.out.2.2.2)).mono ?_
                rintro r w4 ⟨rfl, hD4⟩
                have HD4 := Lib.hid hD4
                obtain ⟨ax', B', d', hax, y0, y1, y2, y3, y4, y5, y6, y7⟩ := at_op (Kd.C_below HX.out (HB1.out.trans (HD4.out.hB.mono HB1.out.size))) i hin q x HQX.out
                rw [← HM.out] at y5 y6 y7
                obtain rfl : ax = ax' := Option.some.inj hax
                clear hD4 x0 x1 x2 x3 x4 x5 hax
                have HC4 := Lib.hid (And.intro y7 y6)
                clear y6 y7
                go_wp2_with fail
                refine (HD4.out.swap.step (fun S h => rtake_any _ w1.heap.size g2 S e h (by have := HF.out.c; omega) (by have := HF.out.s; omega) x B' m d' HC.out.2.2.1 HC4.out.1 HC4.out.2 HC.out.2.2.2)).mono ?_
                rintro r W ⟨rfl, hD5⟩
                have HD := Lib.hid hD5.swap
                have dbb : (takeOk e x != takeOk e x) = false := by simp
                clear hD5 HD4 HC4 y0 y1 y2 y3 y4 y5
                obtain ⟨e2, he2⟩ : ∃ e2, e2 = takeE e x := ⟨_, rfl⟩
                rw [← he2] at HD
                have HF2 := Lib.hid (show Fine e2 (i + 1) from by rw [he2]; exact HF.out.take x)
                clear he2
                obtain ⟨As, cs, Ac, cc, k2, k1, k3, k4, k5⟩ := HD.out.cells
                have HCM := Lib.hid (And.intro k4 k5)
                obtain ⟨th, hth⟩ : ∃ t, t = e2.there := ⟨_, rfl⟩
                obtain ⟨ms, hms⟩ : ∃ t, t = e2.sent.length := ⟨_, rfl⟩
                rw [← hth] at k2
                rw [← hms] at k1
                have HTM := Lib.hid (And.intro hth hms)
                have hz2 := HD.out.hB.size
                have hg2 : g2 < W.heap.size := World.block_lt_of_cell? W _ k2
                clear hth hms k3 k4 k5
                go_upto_region 30 with (fail)
                refine start_ (S := fun w' => Below W.heap.size W w' ∧ w'.cell? ⟨g2, 2, none⟩ = some (.int .i64 (th : Int)) ∧ w'.cell? ⟨g2, 1, none⟩ = some (.slice As ms cs)) (ds := [12]) (n := 13) #[false, false, false, false, false, false, false, false, false, false, false, false, false] rfl rfl rfl ?hS0 (fun hHeld => ?hrun)
                case hS0 => exact ⟨(Below.refl _ _).drew, k2, k1⟩
                case hrun =>
                  refine pure_ (i := 0) (N := some 122) (v := ?_) (a' := ?_) #[true, false, false, false, false, false, false, false, false, false, false, false, false] rfl rfl (by kernel_rfl) (fun _ _ _ h => h) (Or.inl ⟨by rfl, ?_⟩) ?_ ?_
                  rotate_left
                  · intro w'
                    go_simp
                    first | done | with_reducible rfl
                  rotate_left
                  · simp only [Act.put, List.setIfInBounds_toArray, List.set_cons_zero, List.set_cons_succ, i64_w, i32_w]
                    rfl
                  refine pure_ (i := 2) (N := some 124) (v := ?_) (a' := ?_) #[true, false, true, false, false, false, false, false, false, false, false, false, false] rfl rfl (by kernel_rfl) (fun _ _ _ h => h) (Or.inl ⟨by rfl, ?_⟩) ?_ ?_
                  rotate_left
                  · intro w'
                    go_simp
                    first | done | with_reducible rfl
                  rotate_left
                  · simp only [Act.put, List.setIfInBounds_toArray, List.set_cons_zero, List.set_cons_succ, i64_w, i32_w]
                    rfl
                  refine pure_ (i := 3) (N := some 125) (v := ?_) (a' := ?_) #[true, false, true, true, false, false, false, false, false, false, false, false, false] rfl rfl (by kernel_rfl) (fun _ _ _ h => h) (Or.inl ⟨by rfl, ?_⟩) ?_ ?_
                  rotate_left
                  · intro w'
                    go_simp
                    first | done | with_reducible rfl
                  rotate_left
                  · simp only [Act.put, List.setIfInBounds_toArray, List.set_cons_zero, List.set_cons_succ, i64_w, i32_w]
                    rfl
                  refine pure_ (i := 4) (N := some 126) (v := ?_) (a' := ?_) #[true, false, true, true, true, false, false, false, false, false, false, false, false] rfl rfl (by kernel_rfl) (fun _ _ _ h => h) (Or.inl ⟨by rfl, ?_⟩) ?_ ?_
                  rotate_left
                  · intro w'
                    go_simp
                    first | done | with_reducible rfl
                  rotate_left
                  · simp only [Act.put, List.setIfInBounds_toArray, List.set_cons_zero, List.set_cons_succ, i64_w, i32_w]
                    rfl
                  refine take_ (i := 5) (N := some 127) (v := ?_) (a' := ?_) #[true, false, true, true, true, true, false, false, false, false, false, false, false] rfl rfl (by kernel_rfl) (fun _ _ _ h => h) (Or.inl ⟨by rfl, ?_⟩) hHeld ?_ ?_
                  rotate_left
                  · rintro w' ⟨hbe, s0, s1⟩
                    go_simp
                    first | done | with_reducible rfl
                  rotate_left
                  · simp only [Act.put, List.setIfInBounds_toArray, List.set_cons_zero, List.set_cons_succ, i64_w, i32_w]
                    rfl
                  refine pure_ (i := 6) (N := some 128) (v := ?_) (a' := ?_) #[true, false, true, true, true, true, true, false, false, false, false, false, false] rfl rfl (by kernel_rfl) (fun _ _ _ h => h) (Or.inl ⟨by rfl, ?_⟩) ?_ ?_
                  rotate_left
                  · intro w'
                    go_simp
                    first | done | with_reducible rfl
                  rotate_left
                  · simp only [Act.put, List.setIfInBounds_toArray, List.set_cons_zero, List.set_cons_succ, i64_w, i32_w]
                    rfl
                  refine pure_ (i := 7) (N := some 129) (v := ?_) (a' := ?_) #[true, false, true, true, true, true, true, true, false, false, false, false, false] rfl rfl (by kernel_rfl) (fun _ _ _ h => h) (Or.inl ⟨by rfl, ?_⟩) ?_ ?_
                  rotate_left
                  · intro w'
                    go_simp
                    first | done | with_reducible rfl
                  rotate_left
                  · simp only [Act.put, List.setIfInBounds_toArray, List.set_cons_zero, List.set_cons_succ, i64_w, i32_w]
                    rfl
                  refine pure_ (i := 8) (N := some 130) (v := ?_) (a' := ?_) #[true, false, true, true, true, true, true, true, true, false, false, false, false] rfl rfl (by kernel_rfl) (fun _ _ _ h => h) (Or.inl ⟨by rfl, ?_⟩) ?_ ?_
                  rotate_left
                  · intro w'
                    go_simp
                    first | done | with_reducible rfl
                  rotate_left
                  · simp only [Act.put, List.setIfInBounds_toArray, List.set_cons_zero, List.set_cons_succ, i64_w, i32_w]
                    rfl
                  refine take_ (i := 9) (N := some 131) (v := ?_) (a' := ?_) #[true, false, true, true, true, true, true, true, true, true, false, false, false] rfl rfl (by kernel_rfl) (fun _ _ _ h => h) (Or.inl ⟨by rfl, ?_⟩) hHeld ?_ ?_
                  rotate_left
                  · rintro w' ⟨hbe, s0, s1⟩
                    go_simp
                    first | done | with_reducible rfl
                  rotate_left
                  · simp only [Act.put, List.setIfInBounds_toArray, List.set_cons_zero, List.set_cons_succ, i64_w, i32_w]
                    rfl
                  refine pure_ (i := 10) (N := some 132) (v := ?_) (a' := ?_) #[true, false, true, true, true, true, true, true, true, true, true, false, false] rfl rfl (by kernel_rfl) (fun _ _ _ h => h) (Or.inl ⟨by rfl, ?_⟩) ?_ ?_
                  rotate_left
                  · intro w'
                    go_simp
                    first | done | with_reducible rfl
                  rotate_left
                  · simp only [Act.put, List.setIfInBounds_toArray, List.set_cons_zero, List.set_cons_succ, i64_w, i32_w]
                    rfl
                  refine pure_ (i := 11) (N := some 133) (v := ?_) (a' := ?_) #[true, false, true, true, true, true, true, true, true, true, true, true, false] rfl rfl (by kernel_rfl) (fun _ _ _ h => h) (Or.inl ⟨by rfl, ?_⟩) ?_ ?_
                  rotate_left
                  · intro w'
                    go_simp
                    first | done | with_reducible rfl
                  rotate_left
                  · simp only [Act.put, List.setIfInBounds_toArray, List.set_cons_zero, List.set_cons_succ, i64_w, i32_w]
                    rfl
                  refine one_ (i := 1) (N := some 123) #[true, true, true, true, true, true, true, true, true, true, true, true, false] rfl rfl (by kernel_rfl) (by decide) (fun K hK => ?_)
                  refine goes_ Tryd.func26 (by kernel_rfl) rfl #[.pointer (some ⟨g1, 0, none⟩)] (by rfl) rfl rfl (by (try simp only [List.map_toArray, List.map_cons, List.map_nil]); first | done | rfl) ?_
                  refine ((HD.out.below ((Below.refl W.heap.size W).drew)).look (fun S h => done_any W.drew w1.heap.size g1 S _ h)).mono ?_
                  rintro r W2 ⟨rfl, hB9⟩
                  have HB9 := Lib.hid (show Below W.heap.size W W2 from ((Below.refl _ _).drew).trans hB9)
                  rw [← HTM.out.1, ← HTM.out.2]
                  clear hB9 hHeld
                  refine ⟨_, rfl, ?_⟩
                  refine hK.out _ _ ⟨HB9.out, (HB9.out.cell (p := ⟨g2, 2, none⟩) hg2).trans k2, (HB9.out.cell (p := ⟨g2, 1, none⟩) hg2).trans k1⟩ (fun hHeld1 => ?_)
                  clear hK K
                  refine norm_ (a' := ?_) ?_ ?_
                  rotate_left
                  · show Act.put _ (some 123) _ = _
                    simp only [Act.put, List.setIfInBounds_toArray, List.set_cons_zero, List.set_cons_succ, i64_w, i32_w]
                    rfl
                  refine tail_list 12 (t := [12]) (fuel := 0) rfl rfl rfl (by kernel_rfl) (by decide) ?_
                  have dbe : (decide (th = ms) == ((th : Int) == (ms : Int))) = true := by
                    rw [beq_iff_eq, Bool.eq_iff_iff, decide_eq_true_iff, beq_iff_eq]
                    omega
                  have dbn : (decide (th = ms) != ((th : Int) == (ms : Int))) = false := by rw [bne, dbe]; rfl
                  have HD2 := Lib.hid (HD.out.below HB9.out)
                  clear hHeld1 k1 k2 HB9 HCM HTM hz2 hg2
                  go_wp2_with fail
                  refine ⟨⟨i + 1, e2, by go_num, by omega, HF2.out, HD2.out⟩, by simp [intOf]; omega⟩
          · obtain rfl : n = i := by omega
            have d1 : ¬ (n : Int) < (n : Int) := by omega
            obtain ⟨As, cs, Ac, cc, k2, k1, k3, k4, k5⟩ := HD.out.cells
            have hg2 : g2 < wr.heap.size := World.block_lt_of_cell? wr _ k2
            obtain ⟨mc, hmc⟩ : ∃ m, m = e.came.length := ⟨_, rfl⟩
            rw [← hmc] at k3 k4 k5
            have HMC := Lib.hid hmc
            have HK := Lib.hid (And.intro k4 k5)
            clear k1 k2 k4 k5 hmc
            go_upto_region 32 with (fail)
            refine start_ (S := fun w' => Below wr.heap.size wr w' ∧ w'.cell? ⟨g2, 3, none⟩ = some (.slice Ac mc cc)) (ds := [10]) (n := 11) #[false, false, false, false, false, false, false, false, false, false, false] rfl rfl rfl ?hS0 (fun hHeld => ?hrun)
            case hS0 => exact ⟨(Below.refl _ _).drew, k3⟩
            case hrun =>
              refine pure_ (i := 0) (N := some 135) (v := ?_) (a' := ?_) #[true, false, false, false, false, false, false, false, false, false, false] rfl rfl (by kernel_rfl) (fun _ _ _ h => h) (Or.inl ⟨by rfl, ?_⟩) ?_ ?_
              rotate_left
              · intro w'
                go_simp
                first | done | with_reducible rfl
              rotate_left
              · simp only [Act.put, List.setIfInBounds_toArray, List.set_cons_zero, List.set_cons_succ, i64_w, i32_w]
                rfl
              refine pure_ (i := 1) (N := some 136) (v := ?_) (a' := ?_) #[true, true, false, false, false, false, false, false, false, false, false] rfl rfl (by kernel_rfl) (fun _ _ _ h => h) (Or.inl ⟨by rfl, ?_⟩) ?_ ?_
              rotate_left
              · intro w'
                go_simp
                first | done | with_reducible rfl
              rotate_left
              · simp only [Act.put, List.setIfInBounds_toArray, List.set_cons_zero, List.set_cons_succ, i64_w, i32_w]
                rfl
              refine pure_ (i := 2) (N := some 137) (v := ?_) (a' := ?_) #[true, true, true, false, false, false, false, false, false, false, false] rfl rfl (by kernel_rfl) (fun _ _ _ h => h) (Or.inl ⟨by rfl, ?_⟩) ?_ ?_
              rotate_left
              · intro w'
                go_simp
                first | done | with_reducible rfl
              rotate_left
              · simp only [Act.put, List.setIfInBounds_toArray, List.set_cons_zero, List.set_cons_succ, i64_w, i32_w]
                rfl
              refine pure_ (i := 4) (N := some 139) (v := ?_) (a' := ?_) #[true, true, true, false, true, false, false, false, false, false, false] rfl rfl (by kernel_rfl) (fun _ _ _ h => h) (Or.inl ⟨by rfl, ?_⟩) ?_ ?_
              rotate_left
              · intro w'
                go_simp
                first | done | with_reducible rfl
              rotate_left
              · simp only [Act.put, List.setIfInBounds_toArray, List.set_cons_zero, List.set_cons_succ, i64_w, i32_w]
                rfl
              refine pure_ (i := 5) (N := some 140) (v := ?_) (a' := ?_) #[true, true, true, false, true, true, false, false, false, false, false] rfl rfl (by kernel_rfl) (fun _ _ _ h => h) (Or.inl ⟨by rfl, ?_⟩) ?_ ?_
              rotate_left
              · intro w'
                go_simp
                first | done | with_reducible rfl
              rotate_left
              · simp only [Act.put, List.setIfInBounds_toArray, List.set_cons_zero, List.set_cons_succ, i64_w, i32_w]
                rfl
              refine pure_ (i := 6) (N := some 141) (v := ?_) (a' := ?_) #[true, true, true, false, true, true, true, false, false, false, false] rfl rfl (by kernel_rfl) (fun _ _ _ h => h) (Or.inl ⟨by rfl, ?_⟩) ?_ ?_
              rotate_left
              · intro w'
                go_simp
                first | done | with_reducible rfl
              rotate_left
              · simp only [Act.put, List.setIfInBounds_toArray, List.set_cons_zero, List.set_cons_succ, i64_w, i32_w]
                rfl
              refine take_ (i := 7) (N := some 142) (v := ?_) (a' := ?_) #[true, true, true, false, true, true, true, true, false, false, false] rfl rfl (by kernel_rfl) (fun _ _ _ h => h) (Or.inl ⟨by rfl, ?_⟩) hHeld ?_ ?_
              rotate_left
              · rintro w' ⟨hbe, s0⟩
                go_simp
                first | done | with_reducible rfl
              rotate_left
              · simp only [Act.put, List.setIfInBounds_toArray, List.set_cons_zero, List.set_cons_succ, i64_w, i32_w]
                rfl
              refine one_ (i := 3) (N := some 138) #[true, true, true, true, true, true, true, true, false, false, false] rfl rfl (by kernel_rfl) (by decide) (fun K hK => ?_)
              refine goes_ Tryd.func28 (by kernel_rfl) rfl #[.pointer (some ⟨g1, 0, none⟩)] (by rfl) rfl rfl (by (try simp only [List.map_toArray, List.map_cons, List.map_nil]); first | done | rfl) ?_
              refine ((HD.out.below ((Below.refl wr.heap.size wr).drew)).look (fun S h => got_any wr.drew w1.heap.size g1 S _ h (by have := HF.out.c; omega) HF.out.cs)).mono ?_
              rintro r w4 ⟨v, rfl, hR, hB4⟩
              obtain ⟨Av, cv, rfl, hcv, hCv⟩ := Kd.R_reads hR
              have HB4 := Lib.hid (show Below wr.heap.size wr w4 from ((Below.refl _ _).drew).trans hB4)
              rw [← HMC.out] at hcv hCv ⊢
              have HV := Lib.hid (And.intro hcv hCv)
              clear hcv hCv hR hB4 hHeld
              refine ⟨_, rfl, ?_⟩
              refine hK.out _ _ ⟨HB4.out, (HB4.out.cell (p := ⟨g2, 3, none⟩) hg2).trans k3⟩ (fun hHeld1 => ?_)
              clear hK K
              refine norm_ (a' := ?_) ?_ ?_
              rotate_left
              · show Act.put _ (some 138) _ = _
                simp only [Act.put, List.setIfInBounds_toArray, List.set_cons_zero, List.set_cons_succ, i64_w, i32_w]
                rfl
              refine one_ (i := 8) (N := some 143) #[true, true, true, true, true, true, true, true, true, false, false] rfl rfl (by kernel_rfl) (by decide) (fun K hK => ?_)
              refine goes_ Tryd.func27 (by kernel_rfl) rfl #[.slice Av mc cv, .slice Ac mc cc] (by rfl) rfl rfl (by (try simp only [List.map_toArray, List.map_cons, List.map_nil]); first | done | rfl) ?_
              refine (stexts_any e.came mc HMC.out.symm (by have := HF.out.c; have := HMC.out; omega) Av Ac cv cc w4 HV.out.2 HV.out.1 (Kd.C_below HK.out.2 HB4.out) HK.out.1).mono ?_
              rintro r w5 ⟨rfl, hB5⟩
              have HB5 := Lib.hid (HB4.out.trans (hB5.mono HB4.out.size))
              clear hB5 hHeld1
              refine ⟨_, rfl, ?_⟩
              refine hK.out _ _ ⟨HB5.out, (HB5.out.cell (p := ⟨g2, 3, none⟩) hg2).trans k3⟩ (fun hHeld2 => ?_)
              clear hK K
              refine norm_ (a' := ?_) ?_ ?_
              rotate_left
              · show Act.put _ (some 143) _ = _
                simp only [Act.put, List.setIfInBounds_toArray, List.set_cons_zero, List.set_cons_succ, i64_w, i32_w]
                rfl
              refine pure_ (i := 9) (N := some 144) (v := ?_) (a' := ?_) #[true, true, true, true, true, true, true, true, true, true, false] rfl rfl (by kernel_rfl) (fun _ _ _ h => h) (Or.inl ⟨by rfl, ?_⟩) ?_ ?_
              rotate_left
              · intro w'
                go_simp
                first | done | with_reducible rfl
              rotate_left
              · simp only [Act.put, List.setIfInBounds_toArray, List.set_cons_zero, List.set_cons_succ, i64_w, i32_w]
                rfl
              refine tail_list 10 (t := [10]) (fuel := 0) rfl rfl rfl (by kernel_rfl) (by decide) ?_
              go_wp2_with fail
              go_ret
              exact ⟨rfl, HB1.out.trans ((HD.out.hB.trans (HB5.out.mono HD.out.hB.size)).mono HB1.out.size)⟩
end Go.Proofs.YthfgkkpibkkiaaaDoor
