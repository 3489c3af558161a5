/- SessionLimits' contract. -/
import Derived.Test.YthfgkkpibkkiaaaDoorSessJ
set_option linter.unusedVariables false
set_option linter.unusedSimpArgs false
namespace Go.Proofs.YthfgkkpibkkiaaaDoor
open Go.RowKit Go.Proofs.YthfgkkpibkkiaaaDoorW.PrintWords Go.Proofs.YthfgkkpibkkiaaaDoorW.PrintLast Go.Proofs.YthfgkkpibkkiaaaDoor.PSessionPlays

theorem made_ints (m : Nat) : madeCells #[.int .u8 0] (m * 1) = ((List.replicate m (0 : Int)).map (Value.int .u8)).toArray := by
  apply Array.ext
  · simp [madeCells]
  · intro i h1 h2
    simp [madeCells, Nat.mod_one]
set_option maxRecDepth 100000 in
set_option maxHeartbeats 4000000 in
theorem limits_law (w : World) (ni : Int) (wn : (Lit.int .u8 ni).wf = true) (ack : Int) (wa : (Lit.int .i64 ack).wf = true) (li : Int) (wl : (Lit.int .u16 li).wf = true) (hG : Ground w) :
    Calls Tryd.prog 10 #[.int .u8 ni, .int .i64 ack, .int .u16 li] w fun e w' => e = .returned (.bool true) ∧ Below w.heap.size w w' := by
  obtain ⟨k, hk, hke⟩ : ∃ k : Nat, k < 80 ∧ wrap64 (Int.tmod ni 80) = (k : Int) := by
    have hw : 0 ≤ ni ∧ ni < 256 := by
      simp [Lit.wf, IntKind.min, IntKind.max, IntKind.bits, IntKind.signed] at wn
      omega
    refine ⟨(ni % 80).toNat, by omega, ?_⟩
    rw [Int.tmod_eq_emod_of_nonneg hw.1]
    unfold wrap64
    omega
  obtain ⟨m, rfl, hm⟩ : ∃ m : Nat, li = (m : Int) ∧ m < 65536 := by
    have hw : 0 ≤ li ∧ li < 65536 := by
      simp [Lit.wf, IntKind.min, IntKind.max, IntKind.bits, IntKind.signed] at wl
      omega
    exact ⟨li.toNat, by omega, by omega⟩
  have HK := Lib.hid hke
  have HH := Lib.hid (head_any w hG)
  clear hG wn wa wl hke
  go_enter Tryd.func10, Tryd.ntmps10
  go_wp2_with fail
  refine HH.out.mono ?_
  rintro r w1 ⟨rfl, hB1⟩
  have HB1 := Lib.hid hB1
  clear hB1 HH
  go_wp2_with fail
  refine (new_ok 0 w1 rfl).mono ?_
  rintro r w2 ⟨g, rfl, hE, hB2⟩
  have HO2 := Lib.hid (OneF.made hE hB2)
  clear hE hB2
  go_wp2_with fail
  rw [HK.out]
  clear HK
  go_loopw [10] (fun v wr => ∃ (i : Nat) (s : List (List Int)), i ≤ k ∧ v = .int .i64 (i : Int) ∧ s.length = min i 64 ∧ OneF 77 w1 wr (fun _ => False) g ⟨0, s, 0, []⟩) (fun v _ => 400 - (intOf v).toNat)
  case atStart => exact ⟨0, [], by omega, rfl, rfl, HO2.out⟩
  case round =>
    obtain ⟨i, s, hi, rfl, hs, hO⟩ := hrel
    clear HO2
    have HO := Lib.hid (And.intro hs hO)
    clear hs hO
    by_cases hik : i < k
    · have d1 : (i : Int) < (k : Int) := by omega
      have hC : Kd.C (Kd.int .u8) (wr.alloc (.cells #[.int .u8 (i : Int)] 5)) (some ⟨wr.heap.size, 0, none⟩) 1 [(i : Int)] := lit_C wr [(i : Int)] _ _ 1 rfl (by omega) (by omega)
      by_cases hb : i < 64
      · have hS := (HO.out.2.below ((Below.refl wr.heap.size wr).alloc (Nat.le_refl _) (.cells #[.int .u8 (i : Int)] 5))).step (fun S h => send_any _ w1.heap.size g S ⟨0, s, 0, []⟩ h (by have := HO.out.1; show s.length ≤ 64; omega) (some ⟨wr.heap.size, 0, none⟩) 1 1 [(i : Int)] rfl hC (Nat.le_refl _) (by omega))
        have hok : sendOk ⟨0, s, 0, []⟩ [(i : Int)] = true := by
          unfold sendOk
          have := HO.out.1
          exact decide_eq_true ⟨by simp, by show s.length ≠ 64; omega⟩
        have hE : sendE ⟨0, s, 0, []⟩ [(i : Int)] = ⟨0, s ++ [[(i : Int)]], 0, []⟩ := by unfold sendE; rw [if_pos hok]
        rw [hok, hE] at hS
        have HS := Lib.hid hS
        have d2 : (i : Int) < 64 := by omega
        clear hS hok hE hC
        go_wp2_with fail
        refine HS.out.mono ?_
        rintro r w3 ⟨rfl, hO3, _⟩
        have HO3 := Lib.hid hO3
        clear hO3 HS
        go_wp2_with fail
        refine ⟨⟨i + 1, s ++ [[(i : Int)]], by omega, by go_num, by have := HO.out.1; rw [List.length_append, List.length_singleton]; omega, HO3.out⟩, by simp [intOf]; omega⟩
      · have hS := (HO.out.2.below ((Below.refl wr.heap.size wr).alloc (Nat.le_refl _) (.cells #[.int .u8 (i : Int)] 5))).step (fun S h => send_any _ w1.heap.size g S ⟨0, s, 0, []⟩ h (by have := HO.out.1; show s.length ≤ 64; omega) (some ⟨wr.heap.size, 0, none⟩) 1 1 [(i : Int)] rfl hC (Nat.le_refl _) (by omega))
        have hok : sendOk ⟨0, s, 0, []⟩ [(i : Int)] = false := by
          unfold sendOk
          have := HO.out.1
          exact decide_eq_false (fun h => h.2 (by show s.length = 64; omega))
        have hE : sendE ⟨0, s, 0, []⟩ [(i : Int)] = ⟨0, s, 0, []⟩ := by unfold sendE; rw [if_neg (by rw [hok]; simp)]
        rw [hok, hE] at hS
        have HS := Lib.hid hS
        have d2 : ¬ (i : Int) < 64 := by omega
        clear hS hok hE hC
        go_wp2_with fail
        refine HS.out.mono ?_
        rintro r w3 ⟨rfl, hO3, _⟩
        have HO3 := Lib.hid hO3
        clear hO3 HS
        go_wp2_with fail
        refine ⟨⟨i + 1, s, by omega, by go_num, by have := HO.out.1; omega, HO3.out⟩, by simp [intOf]; omega⟩
    · obtain rfl : i = k := by omega
      have hs := HO.out.1
      have HO2 := Lib.hid HO.out.2
      obtain ⟨q, hq, hqe⟩ : ∃ q : Nat, q ≤ 64 ∧ q = min i 64 := ⟨_, Nat.min_le_right _ _, rfl⟩
      have hmin : min (i : Int) 64 = (q : Int) := by omega
      have hsq : s.length = q := by omega
      have HM := Lib.hid (And.intro hmin hsq)
      clear HO hs hqe hmin hsq
      go_wp2_with fail
      rw [HM.out.1]
      obtain ⟨i0, hi0, hz0, hz1, hz2⟩ := info_parts infoU8
      have hmk := run_make (P := Tryd.prog) wr 22 5 i0 (.int .u8 0) (by rfl) hi0 hz0 .i64 .i64 (m : Int) (m : Int) (by omega) (Int.le_refl _) (by rw [hz2]; omega) (by omega)
      rw [hz1, Int.toNat_natCast, show (Value.int IntKind.u8 0).cells = #[.int .u8 0] from rfl, made_ints] at hmk
      rw [hmk]
      have HB3 := Lib.hid ((Below.refl wr.heap.size wr).alloc (Nat.le_refl _) (.cells ((List.replicate m (0 : Int)).map (Value.int .u8)).toArray 5))
      have HC3 := Lib.hid (show Kd.C (Kd.int .u8) (wr.alloc (.cells ((List.replicate m (0 : Int)).map (Value.int .u8)).toArray 5)) (some ⟨wr.heap.size, 0, none⟩) m (List.replicate m 0) from lit_C wr _ _ _ m (by simp) (by omega) (by omega))
      simp only [Result.andThen]
      rw [Oper.upon_value]
      obtain ⟨w4, hw4⟩ : ∃ w4, w4 = wr.alloc (.cells ((List.replicate m (0 : Int)).map (Value.int .u8)).toArray 5) := ⟨_, rfl⟩
      rw [← hw4] at HB3 HC3 ⊢
      have HO4 := Lib.hid ((HO2.out.keep HB3.out))
      have hblk : w4.heap[wr.heap.size]? = some (.cells ((List.replicate m (0 : Int)).map (Value.int .u8)).toArray 5 (0, 0)) := by rw [hw4]; exact heap_alloc_new wr _
      have hin : Since (fun _ => False) wr w4 wr.heap.size := .inr ⟨Nat.le_refl _, by rw [hw4]; simp⟩
      have HIN := Lib.hid (And.intro hblk hin)
      clear hblk hin
      clear hmk hw4 HB3 hi0 hz0 hz1 hz2 HO2
      go_wp2_with fail
      refine (new_ok 0 w4 rfl).mono ?_
      rintro r w5 ⟨g2, rfl, hE5, hB5⟩
      have HT5 := Lib.hid (HO4.out.two hE5 hB5)
      have HC5 := Lib.hid (blk_below HIN.out.1 hB5)
      clear hE5 hB5 HC3
      go_wp2_with fail
      have htk := HT5.out.step (fun S h => take_any w5 w1.heap.size g S ⟨0, s, 0, []⟩ h (by show (0 : Nat) ≤ _; omega) (by have := HM.out.2; show s.length ≤ _; omega) ⟨0, ack, false, 0, []⟩ none 0 0 rfl (Kd.C_nil _ _) (Nat.le_refl _) (by omega))
      have hto : takeOk ⟨0, s, 0, []⟩ ⟨0, ack, false, 0, []⟩ = (decide (0 ≤ ack) && decide (ack ≤ (q : Int))) := by
        unfold takeOk okF okEp okN
        have h1 := HM.out.2
        simp only [List.length_nil, h1]
        rw [Bool.eq_iff_iff]
        simp
        omega
      rw [hto] at htk
      obtain ⟨e', he'⟩ : ∃ e', e' = takeE ⟨0, s, 0, []⟩ ⟨0, ack, false, 0, []⟩ := ⟨_, rfl⟩
      rw [← he'] at htk
      have hso : sendOk ⟨0, [], 0, []⟩ (List.replicate m 0) = decide (m ≤ 32768) := by
        unfold sendOk
        rw [List.length_replicate, decide_eq_decide]
        exact ⟨fun h => h.1, fun h => ⟨h, by decide⟩⟩
      have HTK := Lib.hid htk
      have HSO := Lib.hid hso
      clear htk hto he' hso HT5 HM HO4
      rcases (show (ack < 0 ∨ (0 ≤ ack ∧ (q : Int) < ack)) ∨ (0 ≤ ack ∧ ack ≤ (q : Int)) by omega) with hc | ⟨hc1, hc2⟩
      · have hv : (decide (0 ≤ ack) && decide (ack ≤ (q : Int))) = false := by rw [Bool.and_eq_false_iff]; exact hc.elim (fun h => .inl (decide_eq_false (by omega))) (fun h => .inr (decide_eq_false (by omega)))
        rcases hc with hc | ⟨hc, hc2⟩
        · have d1 : ¬ (0 : Int) ≤ ack := by omega
          rw [hv] at HTK
          clear hv
          go_wp2_with fail
          refine HTK.out.mono ?_
          rintro r w6 ⟨rfl, hT6, hU6⟩
          have HT6 := Lib.hid hT6
          have HC6 := Lib.hid (blk_C ((hU6.block _ (blk_lt HC5.out) (fun h => h.2 HIN.out.2)).trans HC5.out) (show (List.replicate m (0 : Int)).length = m by simp) (by omega))
          clear hT6 HTK hU6
          by_cases h3 : m ≤ 32768
          · have d3 : (m : Int) ≤ 32768 := by omega
            have hsd := HT6.out.swap.step (fun S h => send_any w6 w1.heap.size g2 S ⟨0, [], 0, []⟩ h (by decide) (some ⟨wr.heap.size, 0, none⟩) m m (List.replicate m 0) (by simp) HC6.out (Nat.le_refl _) (by omega))
            rw [HSO.out, decide_eq_true h3] at hsd
            have HS := Lib.hid hsd
            clear hsd
            go_wp2_with fail
            refine HS.out.mono ?_
            rintro r w7 ⟨rfl, hT7, _⟩
            have HT7 := Lib.hid hT7
            clear hT7 HS
            go_wp2_with fail
            go_ret
            refine ⟨?_, HB1.out.trans (HT7.out.hB.mono HB1.out.size)⟩
            first | rfl | (show Ending.returned (Value.bool (!decide _)) = _; rw [decide_eq_false (by omega)]; rfl) | (show Ending.returned (Value.bool _) = _; simp [d1, d3])
          · have d3 : ¬ (m : Int) ≤ 32768 := by omega
            have hsd := HT6.out.swap.step (fun S h => send_any w6 w1.heap.size g2 S ⟨0, [], 0, []⟩ h (by decide) (some ⟨wr.heap.size, 0, none⟩) m m (List.replicate m 0) (by simp) HC6.out (Nat.le_refl _) (by omega))
            rw [HSO.out, decide_eq_false h3] at hsd
            have HS := Lib.hid hsd
            clear hsd
            go_wp2_with fail
            refine HS.out.mono ?_
            rintro r w7 ⟨rfl, hT7, _⟩
            have HT7 := Lib.hid hT7
            clear hT7 HS
            go_wp2_with fail
            go_ret
            refine ⟨?_, HB1.out.trans (HT7.out.hB.mono HB1.out.size)⟩
            first | rfl | (show Ending.returned (Value.bool (!decide _)) = _; rw [decide_eq_false (by omega)]; rfl) | (show Ending.returned (Value.bool _) = _; simp [d1, d3])
        · have d1 : ¬ ack ≤ (q : Int) := by omega
          rw [hv] at HTK
          clear hv
          go_wp2_with fail
          refine HTK.out.mono ?_
          rintro r w6 ⟨rfl, hT6, hU6⟩
          have HT6 := Lib.hid hT6
          have HC6 := Lib.hid (blk_C ((hU6.block _ (blk_lt HC5.out) (fun h => h.2 HIN.out.2)).trans HC5.out) (show (List.replicate m (0 : Int)).length = m by simp) (by omega))
          clear hT6 HTK hU6
          by_cases h3 : m ≤ 32768
          · have d3 : (m : Int) ≤ 32768 := by omega
            have hsd := HT6.out.swap.step (fun S h => send_any w6 w1.heap.size g2 S ⟨0, [], 0, []⟩ h (by decide) (some ⟨wr.heap.size, 0, none⟩) m m (List.replicate m 0) (by simp) HC6.out (Nat.le_refl _) (by omega))
            rw [HSO.out, decide_eq_true h3] at hsd
            have HS := Lib.hid hsd
            clear hsd
            go_wp2_with fail
            refine HS.out.mono ?_
            rintro r w7 ⟨rfl, hT7, _⟩
            have HT7 := Lib.hid hT7
            clear hT7 HS
            go_wp2_with fail
            go_ret
            refine ⟨?_, HB1.out.trans (HT7.out.hB.mono HB1.out.size)⟩
            first | rfl | (show Ending.returned (Value.bool (!decide _)) = _; rw [decide_eq_false (by omega)]; rfl) | (show Ending.returned (Value.bool _) = _; simp [d1, d3])
          · have d3 : ¬ (m : Int) ≤ 32768 := by omega
            have hsd := HT6.out.swap.step (fun S h => send_any w6 w1.heap.size g2 S ⟨0, [], 0, []⟩ h (by decide) (some ⟨wr.heap.size, 0, none⟩) m m (List.replicate m 0) (by simp) HC6.out (Nat.le_refl _) (by omega))
            rw [HSO.out, decide_eq_false h3] at hsd
            have HS := Lib.hid hsd
            clear hsd
            go_wp2_with fail
            refine HS.out.mono ?_
            rintro r w7 ⟨rfl, hT7, _⟩
            have HT7 := Lib.hid hT7
            clear hT7 HS
            go_wp2_with fail
            go_ret
            refine ⟨?_, HB1.out.trans (HT7.out.hB.mono HB1.out.size)⟩
            first | rfl | (show Ending.returned (Value.bool (!decide _)) = _; rw [decide_eq_false (by omega)]; rfl) | (show Ending.returned (Value.bool _) = _; simp [d1, d3])
      · have hv : (decide (0 ≤ ack) && decide (ack ≤ (q : Int))) = true := by rw [decide_eq_true hc1, decide_eq_true hc2]; rfl
        rw [hv] at HTK
        clear hv
        go_wp2_with fail
        refine HTK.out.mono ?_
        rintro r w6 ⟨rfl, hT6, hU6⟩
        have HT6 := Lib.hid hT6
        have HC6 := Lib.hid (blk_C ((hU6.block _ (blk_lt HC5.out) (fun h => h.2 HIN.out.2)).trans HC5.out) (show (List.replicate m (0 : Int)).length = m by simp) (by omega))
        clear hT6 HTK hU6
        by_cases h3 : m ≤ 32768
        · have d3 : (m : Int) ≤ 32768 := by omega
          have hsd := HT6.out.swap.step (fun S h => send_any w6 w1.heap.size g2 S ⟨0, [], 0, []⟩ h (by decide) (some ⟨wr.heap.size, 0, none⟩) m m (List.replicate m 0) (by simp) HC6.out (Nat.le_refl _) (by omega))
          rw [HSO.out, decide_eq_true h3] at hsd
          have HS := Lib.hid hsd
          clear hsd
          go_wp2_with fail
          refine HS.out.mono ?_
          rintro r w7 ⟨rfl, hT7, _⟩
          have HT7 := Lib.hid hT7
          clear hT7 HS
          go_wp2_with fail
          go_ret
          refine ⟨?_, HB1.out.trans (HT7.out.hB.mono HB1.out.size)⟩
          first | rfl | (show Ending.returned (Value.bool (!decide _)) = _; rw [decide_eq_false (by omega)]; rfl) | (show Ending.returned (Value.bool _) = _; simp [d1, d3])
        · have d3 : ¬ (m : Int) ≤ 32768 := by omega
          have hsd := HT6.out.swap.step (fun S h => send_any w6 w1.heap.size g2 S ⟨0, [], 0, []⟩ h (by decide) (some ⟨wr.heap.size, 0, none⟩) m m (List.replicate m 0) (by simp) HC6.out (Nat.le_refl _) (by omega))
          rw [HSO.out, decide_eq_false h3] at hsd
          have HS := Lib.hid hsd
          clear hsd
          go_wp2_with fail
          refine HS.out.mono ?_
          rintro r w7 ⟨rfl, hT7, _⟩
          have HT7 := Lib.hid hT7
          clear hT7 HS
          go_wp2_with fail
          go_ret
          refine ⟨?_, HB1.out.trans (HT7.out.hB.mono HB1.out.size)⟩
          first | rfl | (show Ending.returned (Value.bool (!decide _)) = _; rw [decide_eq_false (by omega)]; rfl) | (show Ending.returned (Value.bool _) = _; simp [d1, d3])
end Go.Proofs.YthfgkkpibkkiaaaDoor
