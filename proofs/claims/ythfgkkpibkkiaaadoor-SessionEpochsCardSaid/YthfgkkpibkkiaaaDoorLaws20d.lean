/- SessionEpochs' contract. -/
import Derived.Test.YthfgkkpibkkiaaaDoorSessK
set_option linter.unusedVariables false
set_option linter.unusedSimpArgs false
namespace Go.Proofs.YthfgkkpibkkiaaaDoor
open Go.RowKit Go.Proofs.YthfgkkpibkkiaaaDoorW.PrintWords Go.Proofs.YthfgkkpibkkiaaaDoorW.PrintLast Go.Proofs.YthfgkkpibkkiaaaDoor.PSessionPlays

theorem tick_small (e : E) : (tickE e).length ≤ 4 := by
  unfold tickE windowOf
  split
  · rw [List.length_mapIdx, List.length_take]
    omega
  · simp
set_option maxRecDepth 100000 in
set_option maxHeartbeats 4000000 in
theorem epochs_law (w : World) (ep : Int) (we : (Lit.int .i64 ep).wf = true) (xs : List (List Int)) (A : Option Addr) (n c : Nat) (h : kTs.K w xs [.slice A n c]) (g : goodT xs) (fs : List S24) (A2 : Option Addr) (n2 c2 : Nat) (h2 : kFs.K w fs [.slice A2 n2 c2]) (g2 : goodFs fs) (hG : Ground w) :
    Calls Tryd.prog 7 #[.int .i64 ep, .slice A n c, .slice A2 n2 c2] w fun e w' => e = .returned (.bool true) ∧ Below w.heap.size w w' := by
  obtain ⟨hn, hc, hX⟩ := texts_open h
  obtain ⟨hn2, hc2, hO⟩ := frames_open h2
  have HX := Lib.hid hX
  have HO := Lib.hid hO
  have HN := Lib.hid (And.intro hn (And.intro hn2 (And.intro hc hc2)))
  have HH := Lib.hid (head_any w hG)
  have HG := Lib.hid (And.intro g g2)
  clear h h2 g hG hX hO hn hn2 hc hc2 g2 we
  go_enter Tryd.func7, Tryd.ntmps7
  go_wp2_with fail
  refine HH.out.mono ?_
  rintro r w1 ⟨rfl, hB1⟩
  have HB1 := Lib.hid hB1
  clear hB1 HH
  go_wp2_with fail
  refine (new_any ep w1).mono ?_
  rintro r w2 (⟨hep, rfl, hB2⟩ | ⟨hep, e0, rfl, hE, hB2⟩)
  · have HB2 := Lib.hid (HB1.out.trans (hB2.mono HB1.out.size))
    clear hB2 hep
    go_wp2_with fail
    go_ret
    exact ⟨rfl, HB2.out⟩
  have HO2 := Lib.hid (OneF.made hE hB2)
  have HEP := Lib.hid hep
  clear hE hB2 hep
  by_cases hbig : 70 < n
  · have d1 : (70 : Int) < (n : Int) := by omega
    go_wp2_with fail
    go_ret
    exact ⟨rfl, HB1.out.trans (HO2.out.hB.mono HB1.out.size)⟩
  have d1 : ¬ (70 : Int) < (n : Int) := by omega
  by_cases hbig2 : 200 < n2
  · have d2 : (200 : Int) < (n2 : Int) := by omega
    go_wp2_with fail
    go_ret
    exact ⟨rfl, HB1.out.trans (HO2.out.hB.mono HB1.out.size)⟩
  have d2 : ¬ (200 : Int) < (n2 : Int) := by omega
  go_wp2_with fail
  go_loopw [9, 10] (fun vn vi wr => ∃ (N i : Nat) (s : List (List Int)), vn = .int .i64 (N : Int) ∧ vi = .int .i64 (i : Int) ∧ N ≤ 50000 ∧ i ≤ n ∧ s.length ≤ 64 ∧ (∀ l ∈ s, l.length ≤ 140737488351232) ∧ OneF 77 w1 wr (fun _ => False) e0 ⟨ep, s, 0, []⟩) (fun _ vi _ => 400 - (intOf vi).toNat)
  case atStart => exact ⟨0, 0, [], rfl, rfl, by omega, by omega, by simp, by simp, HO2.out⟩
  case round =>
    obtain ⟨N, i, s, rfl, rfl, hN, hi, hs, hsz, hO1⟩ := hrel
    clear HO2
    have HS := Lib.hid (And.intro hs (And.intro hsz hO1))
    clear hs hsz hO1
    by_cases hin : i < n
    · have d3 : (i : Int) < (n : Int) := by omega
      obtain ⟨ax, B, d, rfl, hx0, hx1, hx2⟩ := at_kT (Kd.C_below HX.out (HB1.out.trans (HS.out.2.2.hB.mono HB1.out.size))) i hin
      obtain ⟨t, ht⟩ : ∃ t, t = xs.getD i [] := ⟨_, rfl⟩
      rw [← ht] at hx0 hx1 hx2
      obtain ⟨m, hm⟩ : ∃ m, m = t.length := ⟨_, rfl⟩
      rw [← hm] at hx0 hx1 hx2
      have hm2 : m ≤ 140737488351232 := by
        have hl : i < xs.length := by have := HN.out.1; omega
        rw [List.getD_eq_getElem?_getD, List.getElem?_eq_getElem hl] at ht
        have := (HG.out.1.2 (xs[i]'hl) (List.getElem_mem hl)).1
        rw [hm, ht]
        simpa using this
      obtain ⟨q, hq, hqe⟩ : ∃ q : Nat, q ≤ 50000 ∧ min (m : Int) 50000 = (q : Int) := ⟨min m 50000, by omega, by omega⟩
      have hsd := HS.out.2.2.step (fun S h => send_any wr w1.heap.size e0 S ⟨ep, s, 0, []⟩ h HS.out.1 B m d t hm.symm hx2 hx1 hm2)
      obtain ⟨s', hs', hse, hsz'⟩ : ∃ s', s'.length ≤ 64 ∧ sendE ⟨ep, s, 0, []⟩ t = ⟨ep, s', 0, []⟩ ∧ ∀ l ∈ s', l.length ≤ 140737488351232 := by
        unfold sendE
        split
        · rename_i hok
          have hok' := of_decide_eq_true hok
          refine ⟨s ++ [t], ?_, rfl, ?_⟩
          · have h1 : s.length ≠ 64 := hok'.2
            have h2 := HS.out.1
            rw [List.length_append, List.length_singleton]
            omega
          · intro l hl
            rw [List.mem_append, List.mem_singleton] at hl
            rcases hl with hl | rfl
            · exact HS.out.2.1 l hl
            · omega
        · exact ⟨s, HS.out.1, rfl, HS.out.2.1⟩
      rw [hse] at hsd
      have HSD := Lib.hid hsd
      have HSM := Lib.hid (And.intro hs' hsz')
      have HQ := Lib.hid hqe
      clear hsd hs' hse hsz' ht hm hx1 hx2 hqe
      go_upto_region 10 with (fail)
      rw [HQ.out]
      by_cases hgr : 50000 < N + q
      · have d4 : (50000 : Int) < (N : Int) + (q : Int) := by omega
        go_wp2_with fail
        go_ret
        exact ⟨rfl, HB1.out.trans (HS.out.2.2.hB.mono HB1.out.size)⟩
      · have d4 : ¬ (50000 : Int) < (N : Int) + (q : Int) := by omega
        go_wp2_with fail
        refine HSD.out.mono ?_
        rintro r w3 ⟨rfl, hO3, _⟩
        have HO3 := Lib.hid hO3
        clear hO3 HSD HS
        go_wp2_with fail
        refine ⟨⟨N + q, i + 1, s', by go_num, by go_num, by omega, by omega, HSM.out.1, HSM.out.2, HO3.out⟩, by simp [intOf]; omega⟩
    · obtain rfl : n = i := by omega
      have d3 : ¬ (n : Int) < (n : Int) := by omega
      go_wp2_with fail
      refine (HS.out.2.2.look (fun S h => tick_any wr w1.heap.size e0 S _ h (by show (0 : Nat) ≤ _; omega) (by have := HS.out.1; show s.length ≤ _; omega) (by show (0 : Nat) ≤ _; omega) HS.out.2.1)).mono ?_
      rintro r w3 ⟨v, rfl, hR, hB3⟩
      obtain ⟨xt, hxt⟩ : ∃ xt, xt = tickE ⟨ep, s, 0, []⟩ := ⟨_, rfl⟩
      rw [← hxt] at hR
      obtain ⟨Av, cv, rfl⟩ := Kd.R_slice hR
      have hR3 : Kd.R k24 24 w3 wr.heap.size (Since (fun _ => False) wr w3) (.slice Av xt.length cv) xt := Kd.R_mono (Kd.R_bound hR) (fun k hk => .inr ⟨hk.2.1, hk.2.2.1⟩)
      obtain ⟨F, hF⟩ : ∃ F, F = Since (fun _ => False) wr w3 := ⟨_, rfl⟩
      have hO3 := HS.out.2.2.keep hB3
      rw [← hF] at hO3 hR3
      have HO3 := Lib.hid hO3
      have HR3 := Lib.hid hR3
      have HXT := Lib.hid hxt
      clear hR hB3 hR3 hO3 hF hxt
      go_wp2_with fail
      refine (HO3.out.look (fun S h => done_any w3 w1.heap.size e0 S _ h)).mono ?_
      rintro r w4 ⟨rfl, hB4⟩
      have HO4 := Lib.hid (HO3.out.below hB4)
      have HR4 := Lib.hid (Kd.R_below HR3.out hB4)
      obtain ⟨dn, hdn⟩ : ∃ dn, dn = decide ((⟨ep, s, 0, []⟩ : E).there = (⟨ep, s, 0, []⟩ : E).sent.length) := ⟨_, rfl⟩
      rw [← hdn]
      have HDN := Lib.hid hdn
      have HSS := Lib.hid (And.intro HS.out.1 HS.out.2.1)
      clear HS hB4 HO3 HR3 hdn
      obtain ⟨L, hL⟩ : ∃ L, L = xt.length := ⟨_, rfl⟩
      rw [← hL] at HR4 ⊢
      have HL := Lib.hid hL
      clear hL
      go_wp2_with fail
      go_loopw [13] (fun vj wq => ∃ j : Nat, vj = .int .i64 (j : Int) ∧ j ≤ n2 ∧ OneF 77 w1 wq F e0 ⟨ep, s, 0, []⟩ ∧ Kd.R k24 24 wq wr.heap.size F (.slice Av L cv) xt) (fun vj _ => 400 - (intOf vj).toNat)
      case atStart => exact ⟨0, rfl, by omega, HO4.out, HR4.out⟩
      case round =>
        obtain ⟨j, rfl, hj, hOj, hRj⟩ := hrel
        have HJ := Lib.hid (And.intro hOj hRj)
        clear hOj hRj HO4 HR4
        by_cases hjn : j < n2
        · have d5 : (j : Int) < (n2 : Int) := by omega
          obtain ⟨x, hx⟩ : ∃ x, fs[j]? = some x := ⟨_, List.getElem?_eq_getElem (by have := HN.out.2.1; omega)⟩
          obtain ⟨al, Bf, df, rfl, f0, f1, f2, f3, f4, f5, f6⟩ := atN_24 (Kd.C_below HO.out (HB1.out.trans (HJ.out.1.hB.mono HB1.out.size))) j hjn x hx
          have hgx : goodF x := HG.out.2.2 x (List.mem_of_getElem? hx)
          have hlx : x.f4.length ≤ 140737488351232 := by have := hgx.2.2.2.2.1; omega
          obtain ⟨m, hm⟩ : ∃ m, m = x.f4.length := ⟨_, rfl⟩
          rw [← hm] at f4 f5 f6 hlx
          have HF := Lib.hid (And.intro hm (And.intro f5 (And.intro f6 hlx)))
          clear hx hgx f5 f6 hlx hm
          by_cases hsame : x.f0 = ep
          · have d6 : (x.f0 == ep) = true := by rw [beq_iff_eq]; exact hsame
            go_wp2_with fail
            refine ⟨⟨j + 1, by go_num, by omega, HJ.out.1, HJ.out.2⟩, by simp [intOf]; omega⟩
          · have d6 : (x.f0 == ep) = false := by rw [beq_eq_false_iff_ne]; exact hsame
            go_wp2_with fail
            refine (great_any x Bf m df HF.out.1.symm _).mono ?_
            rintro r w5 ⟨rfl, hB5⟩
            have g0 := pw_cell_below hB5 f0
            have g1 := pw_cell_below hB5 f1
            have g2 := pw_cell_below hB5 f2
            have g3 := pw_cell_below hB5 f3
            have g4 := pw_cell_below hB5 f4
            have HJ5 := Lib.hid (And.intro (HJ.out.1.below hB5) (Kd.R_below HJ.out.2 hB5))
            have HC5 := Lib.hid (Kd.C_below HF.out.2.2.1 hB5)
            clear f0 f1 f2 f3 f4 hB5
            by_cases hgr : 40000 < m
            · rw [decide_eq_true hgr]
              go_wp2_with fail
              refine ⟨⟨j + 1, by go_num, by omega, HJ5.out.1, HJ5.out.2⟩, by simp [intOf]; omega⟩
            · rw [decide_eq_false hgr]
              have htk := HJ5.out.1.step (fun S h => take_any w5 w1.heap.size e0 S ⟨ep, s, 0, []⟩ h (by show (0 : Nat) ≤ _; omega) (by have := HSS.out.1; show s.length ≤ _; omega) x Bf m df HF.out.1.symm HC5.out HF.out.2.1 HF.out.2.2.2)
              have hto : takeOk ⟨ep, s, 0, []⟩ x = false := by
                unfold takeOk
                have : decide (x.f0 = (⟨ep, s, 0, []⟩ : E).ep) = false := decide_eq_false hsame
                rw [this]
                simp
              have hte : takeE ⟨ep, s, 0, []⟩ x = ⟨ep, s, 0, []⟩ := by
                unfold takeE
                rw [if_neg (by rw [hto]; simp)]
              rw [hto, hte] at htk
              have HTK := Lib.hid htk
              clear htk hto hte
              go_wp2_with fail
              refine HTK.out.mono ?_
              rintro r w6 ⟨rfl, hO6, hT6⟩
              have HJ6 := Lib.hid (And.intro hO6 (Kd.R_step HJ5.out.2 (fun i hi hl => hT6.block i hl (fun h => h.2 hi))))
              clear hO6 hT6 HTK
              go_wp2_with fail
              refine ⟨⟨j + 1, by go_num, by omega, HJ6.out.1, HJ6.out.2⟩, by simp [intOf]; omega⟩
        · obtain rfl : n2 = j := by omega
          have d5 : ¬ (n2 : Int) < (n2 : Int) := by omega
          go_wp2_with fail
          refine (HJ.out.1.look (fun S h => tick_any _ w1.heap.size e0 S _ h (by show (0 : Nat) ≤ _; omega) (by have := HSS.out.1; show s.length ≤ _; omega) (by show (0 : Nat) ≤ _; omega) HSS.out.2)).mono ?_
          rintro r w5 ⟨v, rfl, hR, hB5⟩
          rw [← HXT.out] at hR
          obtain ⟨A5, c5, rfl, hc5, hC5⟩ := Kd.R_reads hR
          obtain ⟨A6, c6, e6, hc6, hC6⟩ := Kd.R_reads (Kd.R_below HJ.out.2 hB5)
          injection e6 with e1 e2 e3
          subst e1 e3
          rw [← HL.out] at hc5 hC5 hc6 hC6 ⊢
          have hL4 : L ≤ 4 := by rw [HL.out, HXT.out]; exact tick_small _
          have HO5 := Lib.hid (HJ.out.1.below hB5)
          have HCC := Lib.hid (And.intro hC5 (And.intro hc5 (And.intro hC6 hc6)))
          clear hR hB5 hC5 hc5 hC6 hc6 e2
          go_wp2_with fail
          refine (slist_any xt L HL.out.symm (by omega) A5 Av c5 cv w5 HCC.out.1 HCC.out.2.1 HCC.out.2.2.1 HCC.out.2.2.2).mono ?_
          rintro r w6 ⟨rfl, hB6⟩
          have HO6 := Lib.hid (HO5.out.below hB6)
          clear hB6 HO5 HCC
          go_wp2_with fail
          refine (HO6.out.look (fun S h => done_any w6 w1.heap.size e0 S _ h)).mono ?_
          rintro r w7 ⟨rfl, hB7⟩
          rw [← HDN.out]
          have HO7 := Lib.hid (HO6.out.below hB7)
          clear hB7 HO6
          have dbn : (dn == dn) = true := by simp
          go_wp2_with fail
          refine (HO7.out.look (fun S h => got_any w7 w1.heap.size e0 S _ h (by show (0 : Nat) ≤ _; omega) (by simp))).mono ?_
          rintro r w8 ⟨v8, rfl, hR8, hB8⟩
          obtain ⟨A8, c8, rfl⟩ := Kd.R_slice hR8
          have HO8 := Lib.hid (HO7.out.below hB8)
          clear hR8 hB8 HO7
          rw [show (⟨ep, s, 0, []⟩ : E).came.length = 0 from rfl]
          go_wp2_with fail
          go_ret
          exact ⟨rfl, HB1.out.trans (HO8.out.hB.mono HB1.out.size)⟩
end Go.Proofs.YthfgkkpibkkiaaaDoor
