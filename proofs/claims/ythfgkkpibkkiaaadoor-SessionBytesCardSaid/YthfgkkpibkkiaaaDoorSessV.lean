/- The reference's Get: the walk. -/
import Derived.Test.YthfgkkpibkkiaaaDoorSessR
import Derived.Test.YthfgkkpibkkiaaaDoorSessM
set_option linter.unusedVariables false
set_option linter.unusedSimpArgs false
namespace Go.Proofs.YthfgkkpibkkiaaaDoor
open Go.RowKit Go.Proofs.YthfgkkpibkkiaaaDoorW.PrintWords Go.Proofs.YthfgkkpibkkiaaaDoorW.PrintLast Go.Proofs.YthfgkkpibkkiaaaDoor.PSessionPlays

theorem infoI64 : (Tryd.prog.info? 2).map (fun i => (i.zero, i.size, i.bytes)) = some (some (.int .i64 0), 1, 8) := by kernel_rfl
def nums (l : List UInt8) (i : Nat) : List Int := (List.range i).map fun k => (numN l k : Int)
theorem nums_length (l : List UInt8) (i : Nat) : (nums l i).length = i := by simp [nums]
theorem nums_succ (l : List UInt8) (i : Nat) : nums l (i + 1) = nums l i ++ [(numN l i : Int)] := by simp [nums, List.range_succ]
theorem nil_C (w : World) : Kd.C (Kd.int .u8) w none 0 [] := Kd.C_of_reads (d := (0 : Int)) ⟨rfl, by omega, fun h => absurd h (by omega)⟩
theorem resN_le (l : List UInt8) (i : Nat) : (resN l i).length ≤ l.length := by
  induction i with
  | zero => exact Nat.le_refl _
  | succ i ih =>
    show (digR (resN l i)).length ≤ _
    unfold digR
    rw [List.length_drop]
    omega
def Zf (w w' : World) : Prop := Below w.heap.size w w' ∧ w'.heap[w.heap.size]? = some (.cells #[.int .i64 0, .int .i64 0, .bool false, .int .i64 0, .slice none 0 0] 24 (0, 0))
theorem Zf.below {w a b : World} (h : Zf w a) (k : Below a.heap.size a b) : Zf w b := ⟨h.1.trans (k.mono h.1.size), blk_below h.2 k⟩
theorem empty_u8' {w : World} {base : Nat} {ok : Nat → Prop} (hb : base ≤ w.heap.size) (hok : ok w.heap.size) : (Kd.int .u8).R 5 (w.alloc (.cells #[] 5)) base ok (.slice (some ⟨w.heap.size, 0, none⟩) 0 0) [] :=
  ⟨fun k hk => by simp [Value.ownBlock] at hk; subst hk; exact hok, [], World.ownsRow_made (base := base) (e := 5) (size := 1) w #[] 0 hb (by decide) rfl, rfl, fun j p hj => by simp at hj⟩
def EndG (w W : World) (gb : Nat) (v : Value) (xs : List Int) : Prop :=
  Zf w W ∧ W.heap[gb]? = some (.cells #[.int .i64 0, .int .i64 0, .bool false, .int .i64 0, .slice none 0 0] 24 (0, 0)) ∧ w.heap.size < gb ∧ Kd.R (Kd.int .u8) 5 W w.heap.size (fun k => k ≠ gb ∧ k ≠ w.heap.size) v xs
theorem rOk_false {l : List UInt8} {i : Nat} (hi : i < 4) (h : stepOk l i = false) : rOk l = false := by
  unfold rOk
  match i, hi with
  | 0, _ => rw [h]; simp
  | 1, _ => rw [h]; simp
  | 2, _ => rw [h]; simp
  | 3, _ => rw [h]; simp
set_option maxRecDepth 100000 in
set_option maxHeartbeats 8000000 in
theorem rget_any (A : Option Addr) (n c : Nat) (l : List UInt8) (w : World) (hC : Kd.C (Kd.int .u8) w A n (nmI l)) (hc : n ≤ c) (hn : n = l.length) (hl : l.length ≤ 1000000) :
    Calls Tryd.prog 33 #[.slice A n c] w fun r w' => Below w.heap.size w w' ∧ ∃ Ag m cg, (getB l).f4.length = m ∧ r = .returned (.tuple #[.agg #[.int .i64 (getB l).f0, .int .i64 (getB l).f1, .bool (getB l).f2, .int .i64 (getB l).f3, .slice Ag m cg], .int .i64 (getE l)]) ∧ m ≤ cg ∧ Kd.C (Kd.int .u8) w' Ag m (getB l).f4 := by
  obtain ⟨w1, hw1⟩ : ∃ w1, w1 = w.alloc (.cells #[.int .i64 0, .int .i64 0, .bool false, .int .i64 0, .slice none 0 0] 24) := ⟨_, rfl⟩
  have HZ1 := Lib.hid (show Zf w w1 from by rw [hw1]; exact ⟨(Below.refl _ _).alloc (Nat.le_refl _) _, heap_alloc_new w _⟩)
  have HC := Lib.hid hC
  have HN := Lib.hid (And.intro hn hc)
  have HW1 := Lib.hid hw1
  clear hC hn hc hw1
  go_enter Tryd.func33, Tryd.ntmps33
  go_wp2_with fail
  rw [← HW1.out]
  go_loopw [0, 4, 5] (fun vb vl vi wr => ∃ (i : Nat) (Ai : Option Addr) (ni ci : Nat), i ≤ 4 ∧ (∀ j, j < i → stepOk l j = true) ∧ vb = .slice Ai ni ci ∧ ni = (resN l i).length ∧ ni ≤ ci ∧ Kd.C (Kd.int .u8) w Ai ni (nmI (resN l i)) ∧ Kd.R (Kd.int .i64) 2 wr w.heap.size (fun k => k ≠ w.heap.size) vl (nums l i) ∧ vi = .int .i64 (i : Int) ∧ Zf w wr) (fun _ _ vi _ => 4 - (intOf vi).toNat)
  case atStart => exact ⟨0, A, n, c, by omega, fun j hj => absurd hj (by omega), rfl, HN.out.1, HN.out.2, HC.out, Kd.R_nil _ _ _ _ _, rfl, HZ1.out⟩
  case round =>
    obtain ⟨i, Ai, ni, ci, hi, hst, rfl, hni, hci, hCi, hRi, rfl, hZ⟩ := hrel
    have HZ := Lib.hid hZ
    have HR := Lib.hid hRi
    have HI := Lib.hid (And.intro hi (And.intro hst (And.intro hni (And.intro hci hCi))))
    clear hst hni hCi hRi hZ HZ1 HW1
    by_cases h4 : i < 4
    · have d4 : (i : Int) < 4 := by omega
      have hnl : ni ≤ 1000000 := by rw [HI.out.2.2.1]; have := resN_le l i; omega
      have hdg := digits_any Ai ni ci (resN l i) wr (Kd.C_below HI.out.2.2.2.2 HZ.out.1) HI.out.2.2.1 hnl
      obtain ⟨ok, hok⟩ : ∃ b, b = digOk (resN l i) := ⟨_, rfl⟩
      have HDG := Lib.hid hdg
      have HOK := Lib.hid hok
      clear hdg hok
      cases ok with
      | false =>
        have HNO := Lib.hid (show rOk l = false from rOk_false h4 (by unfold stepOk; rw [← HOK.out]; rfl))
        have hv : digV (resN l i) = 0 := by unfold digV; rw [← HOK.out]; rfl
        have ha : digA (resN l i) = -1 := by unfold digA; rw [← HOK.out]; rfl
        rw [hv, ha] at HDG
        clear hv ha
        go_wp2_with fail
        refine HDG.out.mono ?_
        rintro r w2 ⟨rfl, hB2⟩
        have HZ2 := Lib.hid (HZ.out.below hB2)
        clear hB2 HDG
        obtain ⟨z0, z1, z2, z3, z4⟩ := cells5 HZ2.out.2
        have hz0 := blk_frozen HZ2.out.2 0
        have hz1 := blk_frozen HZ2.out.2 1
        have hz2 := blk_frozen HZ2.out.2 2
        have hz3 := blk_frozen HZ2.out.2 3
        have hz4 := blk_frozen HZ2.out.2 4
        have hlz := blk_lt HZ2.out.2
        go_wp2_with fail
        clear z0 z1 z2 z3 z4 hz0 hz1 hz2 hz3 hz4 hlz
        obtain ⟨we, hwe⟩ : ∃ we, we = set5 w2 w.heap.size (.int .i64 0) (.int .i64 0) (.bool false) (.int .i64 0) (.slice none 0 0) := ⟨_, rfl⟩
        unfold set5 at hwe
        rw [← hwe]
        have hwe' : we = set5 w2 w.heap.size (.int .i64 0) (.int .i64 0) (.bool false) (.int .i64 0) (.slice none 0 0) := hwe
        clear hwe
        have hze := set5_blk HZ2.out.2 (.int .i64 0) (.int .i64 0) (.bool false) (.int .i64 0) (.slice none 0 0)
        have hte := set5_turns w2 w.heap.size (.int .i64 0) (.int .i64 0) (.bool false) (.int .i64 0) (.slice none 0 0)
        rw [← hwe'] at hze hte
        obtain ⟨z0, z1, z2, z3, z4⟩ := cells5 hze
        have hlz := blk_lt hze
        have HX := Lib.hid (And.intro hte hwe')
        clear hze hte hwe'
        refine bodyPost_ret (v := .tuple #[.agg #[.int .i64 0, .int .i64 0, .bool false, .int .i64 0, .slice none 0 0], .int .i64 3]) (by simp [results, Tryd.results33, go_sem, z0, z1, z2, z3, z4]) rfl ⟨HZ2.out.1.trans (HX.out.1.toBelow HZ2.out.1.size (fun k e => by subst e; exact Nat.le_refl _)), none, 0, 0, ?_, ?_, Nat.le_refl _, ?_⟩
        · rw [getB_ref, HNO.out]; rfl
        · rw [getB_ref, getE_ref, HNO.out]; rfl
        · rw [getB_ref, HNO.out]; exact nil_C _
      | true =>
        obtain ⟨N, hN⟩ : ∃ N, N = numN l i := ⟨_, rfl⟩
        obtain ⟨a, haa⟩ : ∃ a, a = runD 14 (resN l i) + 1 := ⟨_, rfl⟩
        have hv : digV (resN l i) = (N : Int) := by unfold digV; rw [← HOK.out, hN]; rfl
        have ha : digA (resN l i) = (a : Int) := by unfold digA; rw [← HOK.out, haa]; rfl
        have hale : a ≤ ni := by
          have h := HOK.out.symm
          unfold digOk at h
          simp only [Bool.and_eq_true, decide_eq_true_iff] at h
          rw [haa, HI.out.2.2.1]
          have := h.1.1.2
          omega
        rw [hv, ha] at HDG
        have HNN := Lib.hid hN.symm
        have HA := Lib.hid haa
        have da : ¬ (a : Int) < 0 := by omega
        have da0 : (0 : Int) ≤ (a : Int) := by omega
        have dale : (a : Int) ≤ (ni : Int) := by omega
        have dalc : (a : Int) ≤ (ci : Int) := by omega
        have hst : stepOk l i = ((decide (i = 0) || decide (N ≤ 1073741824)) && (decide (i ≠ 3) || decide (N ≤ 1))) := by
          unfold stepOk
          rw [← HOK.out, ← hN]
          rfl
        clear hv ha hN haa
        by_cases h0 : i = 0
        · have d0 : ¬ (0 : Int) < (i : Int) := by omega
          have d3 : ((i : Int) == 3) = false := by rw [beq_eq_false_iff_ne]; omega
          have HST := Lib.hid (show stepOk l i = true from by rw [hst, decide_eq_true h0, decide_eq_true (show i ≠ 3 by omega)]; rfl)
          clear hst
          go_wp2_with fail
          refine HDG.out.mono ?_
          rintro r w2 ⟨rfl, hB2⟩
          have HZ2 := Lib.hid (HZ.out.below hB2)
          have HR2 := Lib.hid (Kd.R_below HR.out hB2)
          clear hB2 HDG
          go_wp2_with (at_builtin; refine Kd.R_append (Kd.int .i64) (w0 := w) (W := w2) w.heap.size rfl _ _ 83 2 (.int .i64 0) 8 rfl Tryd.underlying83 infoI64 rfl (by decide) (by decide) u4 (nums l i) (N : Int) [.int .i64 (N : Int)] (fun k => k ≠ w.heap.size) (fun _ => False) rfl rfl ?hp ?hokp ?hfresh ?HO ?HB ?hb2 ?hl2 ?hk2)
          case hp => rfl
          case hokp => exact fun k hk => hk.elim
          case hfresh => exact fun k hk => by have := blk_lt HZ2.out.2; omega
          case HO => exact HR2.out
          case HB => exact HZ2.out.1
          case hb2 => exact HZ2.out.1.size
          case hl2 => rw [nums_length]; omega
          case hk2 =>
            intro v1 w3 hR1 hB3 hg3 _
            have hb2 := own_ok HR2.out
            have HZ3 := Lib.hid (show Zf w w3 from ⟨hB3, (hg3.block _ (blk_lt HZ2.out.2) (fun e => hb2 _ e.symm rfl)).trans HZ2.out.2⟩)
            have HR3 := Lib.hid hR1
            clear hR1 hB3 hg3 hb2
            have hw5 := wrap_next (i := i) (by omega)
            go_wp2_with fail
            refine ⟨⟨i + 1, _, ni - a, ci - a, by omega, ?_, rfl, ?_, by omega, ?_, ?_, by go_num, HZ3.out⟩, by simp [intOf]; omega⟩
            · intro j hj
              rcases Nat.lt_or_ge j i with h | h
              · exact HI.out.2.1 j h
              · obtain rfl : j = i := by omega
                exact HST.out
            · rw [HI.out.2.2.1, HA.out]
              show _ = (digR (resN l i)).length
              unfold digR
              rw [List.length_drop]
            · have h := Kd.C_mid (k := Kd.int .u8) (w := w) (A := Ai) (xs := nmI (resN l i)) (lo := a) (hi := (nmI (resN l i)).length) (c := ci) (by rw [nmI_length, ← HI.out.2.2.1]; exact HI.out.2.2.2.2) (by rw [nmI_length, ← HI.out.2.2.1]; exact hale) (Nat.le_refl _) (by rw [nmI_length, ← HI.out.2.2.1]; exact HI.out.2.2.2.1)
              have e1 : (nmI (resN l i)).drop a = nmI (resN l (i + 1)) := by rw [← nmI_drop, HA.out]; rfl
              have e2 : (resN l (i + 1)).length = ni - a := by
                rw [HI.out.2.2.1, HA.out]
                show (digR (resN l i)).length = _
                unfold digR
                rw [List.length_drop]
              rw [List.take_length, show (Kd.int .u8).sz = 1 from rfl, Nat.mul_one, e1, nmI_length, e2] at h
              exact h
            · rw [nums_succ, HNN.out]
              first | exact HR3.out | (subst h0; exact HR3.out) | (subst h3; exact HR3.out)
        · have d0 : (0 : Int) < (i : Int) := by omega
          by_cases hM : N ≤ 1073741824
          · have dM : ¬ (1073741824 : Int) < (N : Int) := by omega
            by_cases h3 : i = 3
            · have d3 : ((i : Int) == 3) = true := by rw [beq_iff_eq]; omega
              by_cases h1 : N ≤ 1
              · have d1 : ¬ (1 : Int) < (N : Int) := by omega
                have HST := Lib.hid (show stepOk l i = true from by rw [hst, decide_eq_true hM, decide_eq_true h1]; simp)
                clear hst
                go_wp2_with fail
                refine HDG.out.mono ?_
                rintro r w2 ⟨rfl, hB2⟩
                have HZ2 := Lib.hid (HZ.out.below hB2)
                have HR2 := Lib.hid (Kd.R_below HR.out hB2)
                clear hB2 HDG
                go_wp2_with (at_builtin; refine Kd.R_append (Kd.int .i64) (w0 := w) (W := w2) w.heap.size rfl _ _ 83 2 (.int .i64 0) 8 rfl Tryd.underlying83 infoI64 rfl (by decide) (by decide) u4 (nums l i) (N : Int) [.int .i64 (N : Int)] (fun k => k ≠ w.heap.size) (fun _ => False) rfl rfl ?hp ?hokp ?hfresh ?HO ?HB ?hb2 ?hl2 ?hk2)
                case hp => rfl
                case hokp => exact fun k hk => hk.elim
                case hfresh => exact fun k hk => by have := blk_lt HZ2.out.2; omega
                case HO => exact HR2.out
                case HB => exact HZ2.out.1
                case hb2 => exact HZ2.out.1.size
                case hl2 => rw [nums_length]; omega
                case hk2 =>
                  intro v1 w3 hR1 hB3 hg3 _
                  have hb2 := own_ok HR2.out
                  have HZ3 := Lib.hid (show Zf w w3 from ⟨hB3, (hg3.block _ (blk_lt HZ2.out.2) (fun e => hb2 _ e.symm rfl)).trans HZ2.out.2⟩)
                  have HR3 := Lib.hid hR1
                  clear hR1 hB3 hg3 hb2
                  have hw5 := wrap_next (i := i) (by omega)
                  go_wp2_with fail
                  refine ⟨⟨i + 1, _, ni - a, ci - a, by omega, ?_, rfl, ?_, by omega, ?_, ?_, by go_num, HZ3.out⟩, by simp [intOf]; omega⟩
                  · intro j hj
                    rcases Nat.lt_or_ge j i with h | h
                    · exact HI.out.2.1 j h
                    · obtain rfl : j = i := by omega
                      exact HST.out
                  · rw [HI.out.2.2.1, HA.out]
                    show _ = (digR (resN l i)).length
                    unfold digR
                    rw [List.length_drop]
                  · have h := Kd.C_mid (k := Kd.int .u8) (w := w) (A := Ai) (xs := nmI (resN l i)) (lo := a) (hi := (nmI (resN l i)).length) (c := ci) (by rw [nmI_length, ← HI.out.2.2.1]; exact HI.out.2.2.2.2) (by rw [nmI_length, ← HI.out.2.2.1]; exact hale) (Nat.le_refl _) (by rw [nmI_length, ← HI.out.2.2.1]; exact HI.out.2.2.2.1)
                    have e1 : (nmI (resN l i)).drop a = nmI (resN l (i + 1)) := by rw [← nmI_drop, HA.out]; rfl
                    have e2 : (resN l (i + 1)).length = ni - a := by
                      rw [HI.out.2.2.1, HA.out]
                      show (digR (resN l i)).length = _
                      unfold digR
                      rw [List.length_drop]
                    rw [List.take_length, show (Kd.int .u8).sz = 1 from rfl, Nat.mul_one, e1, nmI_length, e2] at h
                    exact h
                  · rw [nums_succ, HNN.out]
                    first | exact HR3.out | (subst h0; exact HR3.out) | (subst h3; exact HR3.out)
              · have d1 : (1 : Int) < (N : Int) := by omega
                have HNO := Lib.hid (show rOk l = false from rOk_false h4 (by rw [hst, decide_eq_false h1, decide_eq_false (show ¬ i ≠ 3 by omega)]; simp))
                clear hst
                go_wp2_with fail
                refine HDG.out.mono ?_
                rintro r w2 ⟨rfl, hB2⟩
                have HZ2 := Lib.hid (HZ.out.below hB2)
                have HR2 := Lib.hid (Kd.R_below HR.out hB2)
                clear hB2 HDG
                obtain ⟨z0, z1, z2, z3, z4⟩ := cells5 HZ2.out.2
                have hz0 := blk_frozen HZ2.out.2 0
                have hz1 := blk_frozen HZ2.out.2 1
                have hz2 := blk_frozen HZ2.out.2 2
                have hz3 := blk_frozen HZ2.out.2 3
                have hz4 := blk_frozen HZ2.out.2 4
                have hlz := blk_lt HZ2.out.2
                go_wp2_with fail
                clear z0 z1 z2 z3 z4 hz0 hz1 hz2 hz3 hz4 hlz
                obtain ⟨we, hwe⟩ : ∃ we, we = set5 w2 w.heap.size (.int .i64 0) (.int .i64 0) (.bool false) (.int .i64 0) (.slice none 0 0) := ⟨_, rfl⟩
                unfold set5 at hwe
                rw [← hwe]
                have hwe' : we = set5 w2 w.heap.size (.int .i64 0) (.int .i64 0) (.bool false) (.int .i64 0) (.slice none 0 0) := hwe
                clear hwe
                have hze := set5_blk HZ2.out.2 (.int .i64 0) (.int .i64 0) (.bool false) (.int .i64 0) (.slice none 0 0)
                have hte := set5_turns w2 w.heap.size (.int .i64 0) (.int .i64 0) (.bool false) (.int .i64 0) (.slice none 0 0)
                rw [← hwe'] at hze hte
                obtain ⟨z0, z1, z2, z3, z4⟩ := cells5 hze
                have hlz := blk_lt hze
                have HX := Lib.hid (And.intro hte hwe')
                clear hze hte hwe'
                refine bodyPost_ret (v := .tuple #[.agg #[.int .i64 0, .int .i64 0, .bool false, .int .i64 0, .slice none 0 0], .int .i64 3]) (by simp [results, Tryd.results33, go_sem, z0, z1, z2, z3, z4]) rfl ⟨HZ2.out.1.trans (HX.out.1.toBelow HZ2.out.1.size (fun k e => by subst e; exact Nat.le_refl _)), none, 0, 0, ?_, ?_, Nat.le_refl _, ?_⟩
                · rw [getB_ref, HNO.out]; rfl
                · rw [getB_ref, getE_ref, HNO.out]; rfl
                · rw [getB_ref, HNO.out]; exact nil_C _
            · have d3 : ((i : Int) == 3) = false := by rw [beq_eq_false_iff_ne]; omega
              have HST := Lib.hid (show stepOk l i = true from by rw [hst, decide_eq_true hM, decide_eq_true h3]; simp)
              clear hst
              go_wp2_with fail
              refine HDG.out.mono ?_
              rintro r w2 ⟨rfl, hB2⟩
              have HZ2 := Lib.hid (HZ.out.below hB2)
              have HR2 := Lib.hid (Kd.R_below HR.out hB2)
              clear hB2 HDG
              go_wp2_with (at_builtin; refine Kd.R_append (Kd.int .i64) (w0 := w) (W := w2) w.heap.size rfl _ _ 83 2 (.int .i64 0) 8 rfl Tryd.underlying83 infoI64 rfl (by decide) (by decide) u4 (nums l i) (N : Int) [.int .i64 (N : Int)] (fun k => k ≠ w.heap.size) (fun _ => False) rfl rfl ?hp ?hokp ?hfresh ?HO ?HB ?hb2 ?hl2 ?hk2)
              case hp => rfl
              case hokp => exact fun k hk => hk.elim
              case hfresh => exact fun k hk => by have := blk_lt HZ2.out.2; omega
              case HO => exact HR2.out
              case HB => exact HZ2.out.1
              case hb2 => exact HZ2.out.1.size
              case hl2 => rw [nums_length]; omega
              case hk2 =>
                intro v1 w3 hR1 hB3 hg3 _
                have hb2 := own_ok HR2.out
                have HZ3 := Lib.hid (show Zf w w3 from ⟨hB3, (hg3.block _ (blk_lt HZ2.out.2) (fun e => hb2 _ e.symm rfl)).trans HZ2.out.2⟩)
                have HR3 := Lib.hid hR1
                clear hR1 hB3 hg3 hb2
                have hw5 := wrap_next (i := i) (by omega)
                go_wp2_with fail
                refine ⟨⟨i + 1, _, ni - a, ci - a, by omega, ?_, rfl, ?_, by omega, ?_, ?_, by go_num, HZ3.out⟩, by simp [intOf]; omega⟩
                · intro j hj
                  rcases Nat.lt_or_ge j i with h | h
                  · exact HI.out.2.1 j h
                  · obtain rfl : j = i := by omega
                    exact HST.out
                · rw [HI.out.2.2.1, HA.out]
                  show _ = (digR (resN l i)).length
                  unfold digR
                  rw [List.length_drop]
                · have h := Kd.C_mid (k := Kd.int .u8) (w := w) (A := Ai) (xs := nmI (resN l i)) (lo := a) (hi := (nmI (resN l i)).length) (c := ci) (by rw [nmI_length, ← HI.out.2.2.1]; exact HI.out.2.2.2.2) (by rw [nmI_length, ← HI.out.2.2.1]; exact hale) (Nat.le_refl _) (by rw [nmI_length, ← HI.out.2.2.1]; exact HI.out.2.2.2.1)
                  have e1 : (nmI (resN l i)).drop a = nmI (resN l (i + 1)) := by rw [← nmI_drop, HA.out]; rfl
                  have e2 : (resN l (i + 1)).length = ni - a := by
                    rw [HI.out.2.2.1, HA.out]
                    show (digR (resN l i)).length = _
                    unfold digR
                    rw [List.length_drop]
                  rw [List.take_length, show (Kd.int .u8).sz = 1 from rfl, Nat.mul_one, e1, nmI_length, e2] at h
                  exact h
                · rw [nums_succ, HNN.out]
                  first | exact HR3.out | (subst h0; exact HR3.out) | (subst h3; exact HR3.out)
          · have dM : (1073741824 : Int) < (N : Int) := by omega
            have HNO := Lib.hid (show rOk l = false from rOk_false h4 (by rw [hst, decide_eq_false hM, decide_eq_false h0]; rfl))
            clear hst
            go_wp2_with fail
            refine HDG.out.mono ?_
            rintro r w2 ⟨rfl, hB2⟩
            have HZ2 := Lib.hid (HZ.out.below hB2)
            have HR2 := Lib.hid (Kd.R_below HR.out hB2)
            clear hB2 HDG
            obtain ⟨z0, z1, z2, z3, z4⟩ := cells5 HZ2.out.2
            have hz0 := blk_frozen HZ2.out.2 0
            have hz1 := blk_frozen HZ2.out.2 1
            have hz2 := blk_frozen HZ2.out.2 2
            have hz3 := blk_frozen HZ2.out.2 3
            have hz4 := blk_frozen HZ2.out.2 4
            have hlz := blk_lt HZ2.out.2
            go_wp2_with fail
            clear z0 z1 z2 z3 z4 hz0 hz1 hz2 hz3 hz4 hlz
            obtain ⟨we, hwe⟩ : ∃ we, we = set5 w2 w.heap.size (.int .i64 0) (.int .i64 0) (.bool false) (.int .i64 0) (.slice none 0 0) := ⟨_, rfl⟩
            unfold set5 at hwe
            rw [← hwe]
            have hwe' : we = set5 w2 w.heap.size (.int .i64 0) (.int .i64 0) (.bool false) (.int .i64 0) (.slice none 0 0) := hwe
            clear hwe
            have hze := set5_blk HZ2.out.2 (.int .i64 0) (.int .i64 0) (.bool false) (.int .i64 0) (.slice none 0 0)
            have hte := set5_turns w2 w.heap.size (.int .i64 0) (.int .i64 0) (.bool false) (.int .i64 0) (.slice none 0 0)
            rw [← hwe'] at hze hte
            obtain ⟨z0, z1, z2, z3, z4⟩ := cells5 hze
            have hlz := blk_lt hze
            have HX := Lib.hid (And.intro hte hwe')
            clear hze hte hwe'
            refine bodyPost_ret (v := .tuple #[.agg #[.int .i64 0, .int .i64 0, .bool false, .int .i64 0, .slice none 0 0], .int .i64 3]) (by simp [results, Tryd.results33, go_sem, z0, z1, z2, z3, z4]) rfl ⟨HZ2.out.1.trans (HX.out.1.toBelow HZ2.out.1.size (fun k e => by subst e; exact Nat.le_refl _)), none, 0, 0, ?_, ?_, Nat.le_refl _, ?_⟩
            · rw [getB_ref, HNO.out]; rfl
            · rw [getB_ref, getE_ref, HNO.out]; rfl
            · rw [getB_ref, HNO.out]; exact nil_C _
    · obtain rfl : i = 4 := by omega
      have d4 : ¬ ((4 : Nat) : Int) < 4 := by omega
      obtain ⟨A4, c4, rfl, hc4, hC4⟩ := Kd.R_reads HR.out
      rw [nums_length] at hc4 hC4 ⊢
      obtain ⟨ad, rfl, x0⟩ := at_i64 hC4 0 (by omega) (by rw [nums_length]; omega)
      obtain ⟨ad1, e1, x1⟩ := at_i64 hC4 1 (by omega) (by rw [nums_length]; omega)
      obtain rfl := Option.some.inj e1
      obtain ⟨ad2, e2, x2⟩ := at_i64 hC4 2 (by omega) (by rw [nums_length]; omega)
      obtain rfl := Option.some.inj e2
      obtain ⟨ad3, e3, x3⟩ := at_i64 hC4 3 (by omega) (by rw [nums_length]; omega)
      obtain rfl := Option.some.inj e3
      rw [Addr.add_zero'] at x0
      rw [show ad.add 1 = ⟨ad.block, ad.off + 1, none⟩ from by simp [Addr.add]] at x1
      rw [show ad.add 2 = ⟨ad.block, ad.off + 2, none⟩ from by simp [Addr.add]] at x2
      rw [show ad.add 3 = ⟨ad.block, ad.off + 3, none⟩ from by simp [Addr.add]] at x3
      obtain ⟨N0, hN0⟩ : ∃ k, k = numN l 0 := ⟨_, rfl⟩
      obtain ⟨N1, hN1⟩ : ∃ k, k = numN l 1 := ⟨_, rfl⟩
      obtain ⟨N2, hN2⟩ : ∃ k, k = numN l 2 := ⟨_, rfl⟩
      obtain ⟨N3, hN3⟩ : ∃ k, k = numN l 3 := ⟨_, rfl⟩
      rw [show (nums l 4)[0]'(by rw [nums_length]; omega) = (N0 : Int) from by rw [hN0]; simp [nums]] at x0
      rw [show (nums l 4)[1]'(by rw [nums_length]; omega) = (N1 : Int) from by rw [hN1]; simp [nums]] at x1
      rw [show (nums l 4)[2]'(by rw [nums_length]; omega) = (N2 : Int) from by rw [hN2]; simp [nums]] at x2
      rw [show (nums l 4)[3]'(by rw [nums_length]; omega) = (N3 : Int) from by rw [hN3]; simp [nums]] at x3
      have HNN := Lib.hid (And.intro hN0 (And.intro hN1 (And.intro hN2 hN3)))
      have hla : ad.block < wr.heap.size := World.block_lt_of_cell? wr _ x0
      have hla1 : (⟨ad.block, ad.off + 1, none⟩ : Addr).block < wr.heap.size := World.block_lt_of_cell? wr _ x1
      have hla2 : (⟨ad.block, ad.off + 2, none⟩ : Addr).block < wr.heap.size := World.block_lt_of_cell? wr _ x2
      have hla3 : (⟨ad.block, ad.off + 3, none⟩ : Addr).block < wr.heap.size := World.block_lt_of_cell? wr _ x3
      have HX := Lib.hid (fun (w' : World) (h : Below wr.heap.size wr w') => (⟨⟨HZ.out.below h, h⟩, (h.cell hla).trans x0, (h.cell hla1).trans x1, (h.cell hla2).trans x2, (h.cell hla3).trans x3⟩ : (Zf w w' ∧ Below wr.heap.size wr w') ∧ w'.cell? ad = some (.int .i64 (N0 : Int)) ∧ w'.cell? ⟨ad.block, ad.off + 1, none⟩ = some (.int .i64 (N1 : Int)) ∧ w'.cell? ⟨ad.block, ad.off + 2, none⟩ = some (.int .i64 (N2 : Int)) ∧ w'.cell? ⟨ad.block, ad.off + 3, none⟩ = some (.int .i64 (N3 : Int))))
      have hnl : ni ≤ 1000000 := by rw [HI.out.2.2.1]; have := resN_le l 4; omega
      have hwr : w.heap.size < wr.heap.size := blk_lt HZ.out.2
      have hlen4 : (nmI (resN l 4)).length = ni := by rw [nmI_length]; exact HI.out.2.2.1.symm
      clear hN0 hN1 hN2 hN3 hC4 hla hla1 hla2 hla3 x0 x1 x2 x3 hi h4 e1 e2 e3
      go_upto_region 10 with (fail)
      refine start_ (S := fun w' => (Zf w w' ∧ Below wr.heap.size wr w') ∧ w'.cell? ad = some (.int .i64 (N0 : Int)) ∧ w'.cell? ⟨ad.block, ad.off + 1, none⟩ = some (.int .i64 (N1 : Int)) ∧ w'.cell? ⟨ad.block, ad.off + 2, none⟩ = some (.int .i64 (N2 : Int)) ∧ w'.cell? ⟨ad.block, ad.off + 3, none⟩ = some (.int .i64 (N3 : Int))) (ds := [18]) (n := 19) #[false, false, false, false, false, false, false, false, false, false, false, false, false, false, false, false, false, false, false] rfl rfl rfl ?hS0 (fun hHeld => ?hrun)
      case hS0 => exact HX.out _ (Below.refl _ _).drew
      case hrun =>
        refine pure_ (i := 0) (N := some 44) (v := ?_) (a' := ?_) #[true, false, false, false, false, false, false, false, false, false, false, false, false, false, false, false, false, false, false] rfl rfl (by kernel_rfl) (fun _ _ _ h => h) (Or.inl ⟨by rfl, ?_⟩) ?_ ?_
        rotate_left
        · intro w'
          go_simp
          first | done | with_reducible rfl
        rotate_left
        · simp only [Act.put, List.setIfInBounds_toArray, List.set_cons_zero, List.set_cons_succ, i64_w, i32_w]
          rfl
        refine pure_ (i := 1) (N := some 45) (v := ?_) (a' := ?_) #[true, true, false, false, false, false, false, false, false, false, false, false, false, false, false, false, false, false, false] rfl rfl (by kernel_rfl) (fun _ _ _ h => h) (Or.inl ⟨by rfl, ?_⟩) ?_ ?_
        rotate_left
        · intro w'
          go_simp
          first | done | with_reducible rfl
        rotate_left
        · simp only [Act.put, List.setIfInBounds_toArray, List.set_cons_zero, List.set_cons_succ, i64_w, i32_w]
          rfl
        refine take_ (i := 2) (N := some 46) (v := ?_) (a' := ?_) #[true, true, true, false, false, false, false, false, false, false, false, false, false, false, false, false, false, false, false] rfl rfl (by kernel_rfl) (fun _ _ _ h => h) (Or.inl ⟨by rfl, ?_⟩) hHeld ?_ ?_
        rotate_left
        · rintro w' ⟨_, s0, s1, s2, s3⟩
          go_simp
          first | done | with_reducible rfl
        rotate_left
        · simp only [Act.put, List.setIfInBounds_toArray, List.set_cons_zero, List.set_cons_succ, i64_w, i32_w]
          rfl
        refine pure_ (i := 3) (N := some 47) (v := ?_) (a' := ?_) #[true, true, true, true, false, false, false, false, false, false, false, false, false, false, false, false, false, false, false] rfl rfl (by kernel_rfl) (fun _ _ _ h => h) (Or.inl ⟨by rfl, ?_⟩) ?_ ?_
        rotate_left
        · intro w'
          go_simp
          first | done | with_reducible rfl
        rotate_left
        · simp only [Act.put, List.setIfInBounds_toArray, List.set_cons_zero, List.set_cons_succ, i64_w, i32_w]
          rfl
        refine pure_ (i := 4) (N := some 48) (v := ?_) (a' := ?_) #[true, true, true, true, true, false, false, false, false, false, false, false, false, false, false, false, false, false, false] rfl rfl (by kernel_rfl) (fun _ _ _ h => h) (Or.inl ⟨by rfl, ?_⟩) ?_ ?_
        rotate_left
        · intro w'
          go_simp
          first | done | with_reducible rfl
        rotate_left
        · simp only [Act.put, List.setIfInBounds_toArray, List.set_cons_zero, List.set_cons_succ, i64_w, i32_w]
          rfl
        refine take_ (i := 5) (N := some 49) (v := ?_) (a' := ?_) #[true, true, true, true, true, true, false, false, false, false, false, false, false, false, false, false, false, false, false] rfl rfl (by kernel_rfl) (fun _ _ _ h => h) (Or.inl ⟨by rfl, ?_⟩) hHeld ?_ ?_
        rotate_left
        · rintro w' ⟨_, s0, s1, s2, s3⟩
          go_simp
          first | done | with_reducible rfl
        rotate_left
        · simp only [Act.put, List.setIfInBounds_toArray, List.set_cons_zero, List.set_cons_succ, i64_w, i32_w]
          rfl
        refine pure_ (i := 6) (N := some 50) (v := ?_) (a' := ?_) #[true, true, true, true, true, true, true, false, false, false, false, false, false, false, false, false, false, false, false] rfl rfl (by kernel_rfl) (fun _ _ _ h => h) (Or.inl ⟨by rfl, ?_⟩) ?_ ?_
        rotate_left
        · intro w'
          go_simp
          first | done | with_reducible rfl
        rotate_left
        · simp only [Act.put, List.setIfInBounds_toArray, List.set_cons_zero, List.set_cons_succ, i64_w, i32_w]
          rfl
        refine pure_ (i := 7) (N := some 51) (v := ?_) (a' := ?_) #[true, true, true, true, true, true, true, true, false, false, false, false, false, false, false, false, false, false, false] rfl rfl (by kernel_rfl) (fun _ _ _ h => h) (Or.inl ⟨by rfl, ?_⟩) ?_ ?_
        rotate_left
        · intro w'
          go_simp
          first | done | with_reducible rfl
        rotate_left
        · simp only [Act.put, List.setIfInBounds_toArray, List.set_cons_zero, List.set_cons_succ, i64_w, i32_w]
          rfl
        refine take_ (i := 8) (N := some 52) (v := ?_) (a' := ?_) #[true, true, true, true, true, true, true, true, true, false, false, false, false, false, false, false, false, false, false] rfl rfl (by kernel_rfl) (fun _ _ _ h => h) (Or.inl ⟨by rfl, ?_⟩) hHeld ?_ ?_
        rotate_left
        · rintro w' ⟨_, s0, s1, s2, s3⟩
          go_simp
          first | done | with_reducible rfl
        rotate_left
        · simp only [Act.put, List.setIfInBounds_toArray, List.set_cons_zero, List.set_cons_succ, i64_w, i32_w]
          rfl
        refine pure_ (i := 9) (N := some 53) (v := ?_) (a' := ?_) #[true, true, true, true, true, true, true, true, true, true, false, false, false, false, false, false, false, false, false] rfl rfl (by kernel_rfl) (fun _ _ _ h => h) (Or.inl ⟨by rfl, ?_⟩) ?_ ?_
        rotate_left
        · intro w'
          go_simp
          first | done | with_reducible rfl
        rotate_left
        · simp only [Act.put, List.setIfInBounds_toArray, List.set_cons_zero, List.set_cons_succ, i64_w, i32_w]
          rfl
        refine pure_ (i := 10) (N := some 54) (v := ?_) (a' := ?_) #[true, true, true, true, true, true, true, true, true, true, true, false, false, false, false, false, false, false, false] rfl rfl (by kernel_rfl) (fun _ _ _ h => h) (Or.inl ⟨by rfl, ?_⟩) ?_ ?_
        rotate_left
        · intro w'
          go_simp
          first | done | with_reducible rfl
        rotate_left
        · simp only [Act.put, List.setIfInBounds_toArray, List.set_cons_zero, List.set_cons_succ, i64_w, i32_w]
          rfl
        refine take_ (i := 11) (N := some 55) (v := ?_) (a' := ?_) #[true, true, true, true, true, true, true, true, true, true, true, true, false, false, false, false, false, false, false] rfl rfl (by kernel_rfl) (fun _ _ _ h => h) (Or.inl ⟨by rfl, ?_⟩) hHeld ?_ ?_
        rotate_left
        · rintro w' ⟨_, s0, s1, s2, s3⟩
          go_simp
          first | done | with_reducible rfl
        rotate_left
        · simp only [Act.put, List.setIfInBounds_toArray, List.set_cons_zero, List.set_cons_succ, i64_w, i32_w]
          rfl
        refine pure_ (i := 12) (N := some 56) (v := ?_) (a' := ?_) #[true, true, true, true, true, true, true, true, true, true, true, true, true, false, false, false, false, false, false] rfl rfl (by kernel_rfl) (fun _ _ _ h => h) (Or.inl ⟨by rfl, ?_⟩) ?_ ?_
        rotate_left
        · intro w'
          go_simp
          first | done | with_reducible rfl
        rotate_left
        · simp only [Act.put, List.setIfInBounds_toArray, List.set_cons_zero, List.set_cons_succ, i64_w, i32_w]
          rfl
        refine pure_ (i := 14) (N := some 58) (v := ?_) (a' := ?_) #[true, true, true, true, true, true, true, true, true, true, true, true, true, false, true, false, false, false, false] rfl rfl (by kernel_rfl) (fun _ _ _ h => h) (Or.inl ⟨by rfl, ?_⟩) ?_ ?_
        rotate_left
        · intro w'
          go_simp
          first | done | with_reducible rfl
        rotate_left
        · simp only [Act.put, List.setIfInBounds_toArray, List.set_cons_zero, List.set_cons_succ, i64_w, i32_w]
          rfl
        refine two_ (i := 13) (j := 17) (Ni := some 57) (Nj := some 8) #[true, true, true, true, true, true, true, true, true, true, true, true, true, true, true, false, false, false, false] #[true, true, true, true, true, true, true, true, true, true, true, true, true, false, true, false, false, true, false] rfl rfl rfl rfl (by kernel_rfl) (by decide) (by decide) (fun K hK => ?_) (fun K hK => ?_)
        · skip
          refine value_ (by rfl) rfl (by go_simp; first | rfl | exact ⟨rfl, rfl⟩) ?_
          have HWa := Lib.hid (show Below wr.heap.size wr (wr.alloc (.cells #[] 5)).drew from ((Below.refl wr.heap.size wr).alloc (Nat.le_refl _) _).drew)
          refine hK.out _ _ (HX.out _ HWa.out) (fun hHeld1 => ?_)
          clear hK K
          refine norm_ (a' := ?_) ?_ ?_
          rotate_left
          · show Act.put _ (some 57) _ = _
            simp only [Act.put, List.setIfInBounds_toArray, List.set_cons_zero, List.set_cons_succ, i64_w, i32_w]
            rfl
          refine two_ (i := 15) (j := 17) (Ni := some 59) (Nj := some 8) #[true, true, true, true, true, true, true, true, true, true, true, true, true, true, true, true, false, false, false] #[true, true, true, true, true, true, true, true, true, true, true, true, true, true, true, false, false, true, false] rfl rfl rfl rfl (by kernel_rfl) (by decide) (by decide) (fun K hK => ?_) (fun K hK => ?_)
          · skip
            have hsz : ((wr.alloc (.cells #[] 5)).drew).heap.size = wr.heap.size + 1 := by simp
            refine Kd.R_append_rows_step (w0 := (wr.alloc (.cells #[] 5)).drew) (Kd.int .u8) (Rr := fun x cs => cs = [.int .u8 x]) w.heap.size (by rfl) _ _ 22 5 (.int .u8 0) 1 (by rfl) Tryd.underlying22 infoU8 rfl (by decide) (by decide) (.slice (some ⟨wr.heap.size, 0, none⟩) 0 0) [] (nmI (resN l 4)) Ai ni ci (fun k => k ≠ w.heap.size) (fun _ => False) (by rfl) (by rfl) ?hoa ?hra (fun x cs h => h) (fun _ h => h.elim) ?hfa ?hba ?hbasea ?hla ?hka
            case hfa =>
              intro k hk
              rw [hsz] at hk
              have := hwr
              first | (show k ≠ w.heap.size; omega) | (refine ⟨?_, ?_⟩ <;> omega)
            case hoa => exact Kd.R_drew (empty_u8' (by omega) (by show wr.heap.size ≠ _; omega))
            case hra => exact Kd.C_below HI.out.2.2.2.2 (HZ.out.1.trans (HWa.out.mono HZ.out.1.size))
            case hba => exact (Below.refl ((wr.alloc (.cells #[] 5)).drew).heap.size ((wr.alloc (.cells #[] 5)).drew)).mono (by rw [hsz]; omega)
            case hbasea => rw [hsz]; omega
            case hla => show (0 + ni) * 1 ≤ _; omega
            intro v9 w9 hR9 _ hg9 _
            rw [List.nil_append] at hR9
            have hB9 : Below wr.heap.size wr w9 := Below.grown HWa.out hg9 (by rw [hsz]; omega) (fun k e => by simp [Value.ownBlock] at e; omega)
            have HB9 := Lib.hid hB9
            have HZ9 := Lib.hid (HZ.out.below hB9)
            obtain ⟨A9, c9, rfl, hc9, _⟩ := Kd.R_reads hR9
            have HR9 := Lib.hid (And.intro hR9 hc9)
            rw [hlen4] at HR9 ⊢
            clear hR9 hB9 hc9 hg9 hsz
            refine hK.out _ _ (HX.out _ HB9.out) (fun hHeld2 => ?_)
            clear hK K
            refine norm_ (a' := ?_) ?_ ?_
            rotate_left
            · show Act.put _ (some 59) _ = _
              simp only [Act.put, List.setIfInBounds_toArray, List.set_cons_zero, List.set_cons_succ, i64_w, i32_w]
              rfl
            refine pure_ (i := 16) (N := some 60) (v := ?_) (a' := ?_) #[true, true, true, true, true, true, true, true, true, true, true, true, true, true, true, true, true, false, false] rfl rfl (by kernel_rfl) (fun _ _ _ h => h) (Or.inl ⟨by rfl, ?_⟩) ?_ ?_
            rotate_left
            · intro w'
              go_simp
              first | done | with_reducible rfl
            rotate_left
            · simp only [Act.put, List.setIfInBounds_toArray, List.set_cons_zero, List.set_cons_succ, i64_w, i32_w]
              rfl
            refine one_ (i := 17) (N := some 8) #[true, true, true, true, true, true, true, true, true, true, true, true, true, true, true, true, true, true, false] rfl rfl (by kernel_rfl) (by decide) (fun K hK => ?_)
            refine value_ (by rfl) rfl (by go_simp; first | rfl | exact ⟨rfl, rfl⟩) ?_
            refine hK.out _ _ (HX.out _ (HB9.out.alloc HB9.out.size _)) (fun hHeld3 => ?_)
            clear hK K
            refine norm_ (a' := ?_) ?_ ?_
            rotate_left
            · show Act.put _ (some 8) _ = _
              simp only [Act.put, List.setIfInBounds_toArray, List.set_cons_zero, List.set_cons_succ, i64_w, i32_w]
              rfl
            refine tail_list 18 (t := [18]) (fuel := 0) rfl rfl rfl (by kernel_rfl) (by decide) ?_
            have HE := Lib.hid (show EndG w (w9.alloc (.cells #[.int .i64 0, .int .i64 0, .bool false, .int .i64 0, .slice none 0 0] 24)) (w9.heap.size) (.slice A9 ni c9) (nmI (resN l 4)) from ⟨HZ9.out.below ((Below.refl w9.heap.size w9).alloc (Nat.le_refl _) _), heap_alloc_new w9 _, Nat.lt_of_lt_of_le hwr HB9.out.size, Kd.R_alloc (Kd.R_mono (Kd.R_bound HR9.out.1) (fun k hk => ⟨by have := hk.2.2.1; omega, hk.1⟩)) _⟩)
            have hc9 := HR9.out.2
            obtain ⟨gb, hgb⟩ : ∃ g, g = w9.heap.size := ⟨_, rfl⟩
            obtain ⟨W, hW⟩ : ∃ W, W = w9.alloc (.cells #[.int .i64 0, .int .i64 0, .bool false, .int .i64 0, .slice none 0 0] 24) := ⟨_, rfl⟩
            rw [← hgb, ← hW] at HE
            simp only [← hgb]
            rw [← hW]
            clear hgb hW HX HR9 HZ9 HB9 HR
            obtain ⟨q0, q1, q2, q3, q4⟩ := cells5 HE.out.2.1
            have hq0 := blk_frozen HE.out.2.1 0
            have hq1 := blk_frozen HE.out.2.1 1
            have hq2 := blk_frozen HE.out.2.1 2
            have hq3 := blk_frozen HE.out.2.1 3
            have hq4 := blk_frozen HE.out.2.1 4
            have hlq := blk_lt HE.out.2.1
            go_wp2_with fail
            clear q0 q1 q2 q3 q4 hq0 hq1 hq2 hq3 hq4 hlq
            obtain ⟨wf, hwf⟩ : ∃ wf, wf = set5 W gb (.int .i64 (N0 : Int)) (.int .i64 (N1 : Int)) (.bool ((N3 : Int) == 1)) (.int .i64 (N2 : Int)) (.slice A9 ni c9) := ⟨_, rfl⟩
            unfold set5 at hwf
            rw [← hwf]
            have hwf' : wf = set5 W gb (.int .i64 (N0 : Int)) (.int .i64 (N1 : Int)) (.bool ((N3 : Int) == 1)) (.int .i64 (N2 : Int)) (.slice A9 ni c9) := hwf
            clear hwf
            have hgf := set5_blk HE.out.2.1 (.int .i64 (N0 : Int)) (.int .i64 (N1 : Int)) (.bool ((N3 : Int) == 1)) (.int .i64 (N2 : Int)) (.slice A9 ni c9)
            have hzf : Zf w wf := by
              rw [hwf']
              refine ⟨HE.out.1.1.trans ((set5_turns W gb (.int .i64 (N0 : Int)) (.int .i64 (N1 : Int)) (.bool ((N3 : Int) == 1)) (.int .i64 (N2 : Int)) (.slice A9 ni c9)).toBelow HE.out.1.1.size (fun k e => by subst e; exact Nat.le_of_lt HE.out.2.2.1)), ?_⟩
              exact ((set5_turns W gb (.int .i64 (N0 : Int)) (.int .i64 (N1 : Int)) (.bool ((N3 : Int) == 1)) (.int .i64 (N2 : Int)) (.slice A9 ni c9)).block _ (blk_lt HE.out.1.2) (fun e => by have := HE.out.2.2.1; omega)).trans HE.out.1.2
            have hRf : Kd.R (Kd.int .u8) 5 wf w.heap.size (fun k => k ≠ gb ∧ k ≠ w.heap.size) (.slice A9 ni c9) (nmI (resN l 4)) := by
              rw [hwf']
              unfold set5
              exact Kd.R_far (Kd.R_far (Kd.R_far (Kd.R_far (Kd.R_far HE.out.2.2.2 (fun k hk => hk.1) _) (fun k hk => hk.1) _) (fun k hk => hk.1) _) (fun k hk => hk.1) _) (fun k hk => hk.1) _
            rw [← hwf'] at hgf
            have hCf : Kd.C (Kd.int .u8) wf A9 ni (nmI (resN l 4)) := by
              obtain ⟨A', c', e', _, hC'⟩ := Kd.R_reads hRf
              injection e' with e1 e2 e3
              rw [hlen4, ← e1] at hC'
              exact hC'
            obtain ⟨q, hq⟩ : ∃ q, q = okF ⟨(N0 : Int), (N1 : Int), (N3 : Int) == 1, (N2 : Int), nmI (resN l 4)⟩ := ⟨_, rfl⟩
            have hr := rright_any ⟨(N0 : Int), (N1 : Int), (N3 : Int) == 1, (N2 : Int), nmI (resN l 4)⟩ A9 ni c9 wf hlen4 hCf hc9
            rw [← hq] at hr
            have hrF : rF l = ⟨(N0 : Int), (N1 : Int), (N3 : Int) == 1, (N2 : Int), nmI (resN l 4)⟩ := by unfold rF; rw [← HNN.out.1, ← HNN.out.2.1, ← HNN.out.2.2.1, ← HNN.out.2.2.2]
            have hro : rOk l = q := by
              unfold rOk
              rw [HI.out.2.1 0 (by omega), HI.out.2.1 1 (by omega), HI.out.2.1 2 (by omega), HI.out.2.1 3 (by omega), hrF, hq]
              rfl
            have HRR := Lib.hid hr
            have HGF := Lib.hid (And.intro hgf (And.intro hRf hrF))
            have HZf := Lib.hid hzf
            have HRO := Lib.hid hro
            clear hr hgf hRf hCf hzf hro hq hwf' hrF HE
            refine HRR.out.mono ?_
            rintro r wg ⟨rfl, hBg⟩
            have HZ2 := Lib.hid (HZf.out.below hBg)
            have HG2 := Lib.hid (blk_below HGF.out.1 hBg)
            have HR2 := Lib.hid (Kd.R_below HGF.out.2.1 hBg)
            clear hBg HRR HZf
            cases q with
            | false =>
              have HNO := Lib.hid HRO.out
              obtain ⟨z0, z1, z2, z3, z4⟩ := cells5 HZ2.out.2
              have hz0 := blk_frozen HZ2.out.2 0
              have hz1 := blk_frozen HZ2.out.2 1
              have hz2 := blk_frozen HZ2.out.2 2
              have hz3 := blk_frozen HZ2.out.2 3
              have hz4 := blk_frozen HZ2.out.2 4
              have hlz := blk_lt HZ2.out.2
              go_wp2_with fail
              clear z0 z1 z2 z3 z4 hz0 hz1 hz2 hz3 hz4 hlz
              obtain ⟨we, hwe⟩ : ∃ we, we = set5 wg w.heap.size (.int .i64 0) (.int .i64 0) (.bool false) (.int .i64 0) (.slice none 0 0) := ⟨_, rfl⟩
              unfold set5 at hwe
              rw [← hwe]
              have hwe' : we = set5 wg w.heap.size (.int .i64 0) (.int .i64 0) (.bool false) (.int .i64 0) (.slice none 0 0) := hwe
              clear hwe
              have hze := set5_blk HZ2.out.2 (.int .i64 0) (.int .i64 0) (.bool false) (.int .i64 0) (.slice none 0 0)
              have hte := set5_turns wg w.heap.size (.int .i64 0) (.int .i64 0) (.bool false) (.int .i64 0) (.slice none 0 0)
              rw [← hwe'] at hze hte
              obtain ⟨z0, z1, z2, z3, z4⟩ := cells5 hze
              have hlz := blk_lt hze
              have HX := Lib.hid (And.intro hte hwe')
              clear hze hte hwe'
              refine bodyPost_ret (v := .tuple #[.agg #[.int .i64 0, .int .i64 0, .bool false, .int .i64 0, .slice none 0 0], .int .i64 3]) (by simp [results, Tryd.results33, go_sem, z0, z1, z2, z3, z4]) rfl ⟨HZ2.out.1.trans (HX.out.1.toBelow HZ2.out.1.size (fun k e => by subst e; exact Nat.le_refl _)), none, 0, 0, ?_, ?_, Nat.le_refl _, ?_⟩
              · rw [getB_ref, HNO.out]; rfl
              · rw [getB_ref, getE_ref, HNO.out]; rfl
              · rw [getB_ref, HNO.out]; exact nil_C _
            | true =>
              obtain ⟨p0, p1, p2, p3, p4⟩ := cells5 HG2.out
              have hlp := blk_lt HG2.out
              obtain ⟨z0, z1, z2, z3, z4⟩ := cells5 HZ2.out.2
              have hz0 := blk_frozen HZ2.out.2 0
              have hz1 := blk_frozen HZ2.out.2 1
              have hz2 := blk_frozen HZ2.out.2 2
              have hz3 := blk_frozen HZ2.out.2 3
              have hz4 := blk_frozen HZ2.out.2 4
              have hlz := blk_lt HZ2.out.2
              go_wp2_with fail
              clear p0 p1 p2 p3 p4 hlp
              clear z0 z1 z2 z3 z4 hz0 hz1 hz2 hz3 hz4 hlz
              obtain ⟨we, hwe⟩ : ∃ we, we = set5 wg w.heap.size (.int .i64 (N0 : Int)) (.int .i64 (N1 : Int)) (.bool ((N3 : Int) == 1)) (.int .i64 (N2 : Int)) (.slice A9 ni c9) := ⟨_, rfl⟩
              unfold set5 at hwe
              rw [← hwe]
              have hwe' : we = set5 wg w.heap.size (.int .i64 (N0 : Int)) (.int .i64 (N1 : Int)) (.bool ((N3 : Int) == 1)) (.int .i64 (N2 : Int)) (.slice A9 ni c9) := hwe
              clear hwe
              have hze := set5_blk HZ2.out.2 (.int .i64 (N0 : Int)) (.int .i64 (N1 : Int)) (.bool ((N3 : Int) == 1)) (.int .i64 (N2 : Int)) (.slice A9 ni c9)
              have hte := set5_turns wg w.heap.size (.int .i64 (N0 : Int)) (.int .i64 (N1 : Int)) (.bool ((N3 : Int) == 1)) (.int .i64 (N2 : Int)) (.slice A9 ni c9)
              rw [← hwe'] at hze hte
              obtain ⟨z0, z1, z2, z3, z4⟩ := cells5 hze
              have hlz := blk_lt hze
              have HX := Lib.hid (And.intro hte hwe')
              clear hze hte hwe'
              refine bodyPost_ret (v := .tuple #[.agg #[.int .i64 (N0 : Int), .int .i64 (N1 : Int), .bool ((N3 : Int) == 1), .int .i64 (N2 : Int), .slice A9 ni c9], .int .i64 0]) (by simp [results, Tryd.results33, go_sem, z0, z1, z2, z3, z4]) rfl ⟨HZ2.out.1.trans (HX.out.1.toBelow HZ2.out.1.size (fun k e => by subst e; exact Nat.le_refl _)), A9, ni, c9, ?_, ?_, hc9, ?_⟩
              · rw [getB_ref, HRO.out, if_pos rfl, HGF.out.2.2]; exact hlen4
              · rw [getB_ref, getE_ref, HRO.out, if_pos rfl, if_pos rfl, HGF.out.2.2]
              · rw [getB_ref, HRO.out, if_pos rfl, HGF.out.2.2, HX.out.2]
                have hRe : Kd.R (Kd.int .u8) 5 (set5 wg w.heap.size (.int .i64 (N0 : Int)) (.int .i64 (N1 : Int)) (.bool ((N3 : Int) == 1)) (.int .i64 (N2 : Int)) (.slice A9 ni c9)) w.heap.size (fun k => k ≠ gb ∧ k ≠ w.heap.size) (.slice A9 ni c9) (nmI (resN l 4)) := by
                  unfold set5
                  exact Kd.R_far (Kd.R_far (Kd.R_far (Kd.R_far (Kd.R_far HR2.out (fun k hk => hk.2) _) (fun k hk => hk.2) _) (fun k hk => hk.2) _) (fun k hk => hk.2) _) (fun k hk => hk.2) _
                obtain ⟨A', c', e', _, hC'⟩ := Kd.R_reads hRe
                injection e' with e1 e2 e3
                rw [hlen4, ← e1] at hC'
                exact hC'
          · skip
            refine value_ (by rfl) rfl (by go_simp; first | rfl | exact ⟨rfl, rfl⟩) ?_
            have HWb := Lib.hid (show Below wr.heap.size wr ((wr.alloc (.cells #[] 5)).alloc (.cells #[.int .i64 0, .int .i64 0, .bool false, .int .i64 0, .slice none 0 0] 24)).drew from (((Below.refl wr.heap.size wr).alloc (Nat.le_refl _) _).alloc (by simp) _).drew)
            refine hK.out _ _ (HX.out _ HWb.out) (fun hHeld2 => ?_)
            clear hK K
            refine norm_ (a' := ?_) ?_ ?_
            rotate_left
            · show Act.put _ (some 8) _ = _
              simp only [Act.put, List.setIfInBounds_toArray, List.set_cons_zero, List.set_cons_succ, i64_w, i32_w]
              rfl
            refine one_ (i := 15) (N := some 59) #[true, true, true, true, true, true, true, true, true, true, true, true, true, true, true, true, false, true, false] rfl rfl (by kernel_rfl) (by decide) (fun K hK => ?_)
            have hsz : (((wr.alloc (.cells #[] 5)).alloc (.cells #[.int .i64 0, .int .i64 0, .bool false, .int .i64 0, .slice none 0 0] 24)).drew).heap.size = wr.heap.size + 2 := by simp
            refine Kd.R_append_rows_step (w0 := ((wr.alloc (.cells #[] 5)).alloc (.cells #[.int .i64 0, .int .i64 0, .bool false, .int .i64 0, .slice none 0 0] 24)).drew) (Kd.int .u8) (Rr := fun x cs => cs = [.int .u8 x]) w.heap.size (by rfl) _ _ 22 5 (.int .u8 0) 1 (by rfl) Tryd.underlying22 infoU8 rfl (by decide) (by decide) (.slice (some ⟨wr.heap.size, 0, none⟩) 0 0) [] (nmI (resN l 4)) Ai ni ci (fun k => k ≠ wr.heap.size + 1 ∧ k ≠ w.heap.size) (fun _ => False) (by rfl) (by rfl) ?hob ?hrb (fun x cs h => h) (fun _ h => h.elim) ?hfb ?hbb ?hbaseb ?hlb ?hkb
            case hfb =>
              intro k hk
              rw [hsz] at hk
              have := hwr
              first | (show k ≠ w.heap.size; omega) | (refine ⟨?_, ?_⟩ <;> omega)
            case hob => exact Kd.R_drew (Kd.R_alloc (empty_u8' (by omega) ⟨by omega, by omega⟩) _)
            case hrb => exact Kd.C_below HI.out.2.2.2.2 (HZ.out.1.trans (HWb.out.mono HZ.out.1.size))
            case hbb => exact (Below.refl (((wr.alloc (.cells #[] 5)).alloc (.cells #[.int .i64 0, .int .i64 0, .bool false, .int .i64 0, .slice none 0 0] 24)).drew).heap.size (((wr.alloc (.cells #[] 5)).alloc (.cells #[.int .i64 0, .int .i64 0, .bool false, .int .i64 0, .slice none 0 0] 24)).drew)).mono (by rw [hsz]; omega)
            case hbaseb => rw [hsz]; omega
            case hlb => show (0 + ni) * 1 ≤ _; omega
            intro v9 w9 hR9 _ hg9 _
            rw [List.nil_append] at hR9
            have hB9 : Below wr.heap.size wr w9 := Below.grown HWb.out hg9 (by rw [hsz]; omega) (fun k e => by simp [Value.ownBlock] at e; omega)
            have HB9 := Lib.hid hB9
            have HZ9 := Lib.hid (HZ.out.below hB9)
            have HGB := Lib.hid (show w9.heap[wr.heap.size + 1]? = some (.cells #[.int .i64 0, .int .i64 0, .bool false, .int .i64 0, .slice none 0 0] 24 (0, 0)) from (hg9.block _ (by rw [hsz]; omega) (fun e => by simp [Value.ownBlock] at e)).trans (by have h := heap_alloc_new (wr.alloc (.cells #[] 5)) (.cells #[.int .i64 0, .int .i64 0, .bool false, .int .i64 0, .slice none 0 0] 24); rw [World.size_alloc] at h; exact h))
            obtain ⟨A9, c9, rfl, hc9, _⟩ := Kd.R_reads hR9
            have HR9 := Lib.hid (And.intro hR9 hc9)
            rw [hlen4] at HR9 ⊢
            clear hR9 hB9 hc9 hg9 hsz
            refine hK.out _ _ (HX.out _ HB9.out) (fun hHeld3 => ?_)
            clear hK K
            refine norm_ (a' := ?_) ?_ ?_
            rotate_left
            · show Act.put _ (some 59) _ = _
              simp only [Act.put, List.setIfInBounds_toArray, List.set_cons_zero, List.set_cons_succ, i64_w, i32_w]
              rfl
            refine pure_ (i := 16) (N := some 60) (v := ?_) (a' := ?_) #[true, true, true, true, true, true, true, true, true, true, true, true, true, true, true, true, true, true, false] rfl rfl (by kernel_rfl) (fun _ _ _ h => h) (Or.inl ⟨by rfl, ?_⟩) ?_ ?_
            rotate_left
            · intro w'
              go_simp
              first | done | with_reducible rfl
            rotate_left
            · simp only [Act.put, List.setIfInBounds_toArray, List.set_cons_zero, List.set_cons_succ, i64_w, i32_w]
              rfl
            refine tail_list 18 (t := [18]) (fuel := 0) rfl rfl rfl (by kernel_rfl) (by decide) ?_
            have HE := Lib.hid (show EndG w (w9) (wr.heap.size + 1) (.slice A9 ni c9) (nmI (resN l 4)) from ⟨HZ9.out, HGB.out, by omega, HR9.out.1⟩)
            have hc9 := HR9.out.2
            obtain ⟨gb, hgb⟩ : ∃ g, g = wr.heap.size + 1 := ⟨_, rfl⟩
            obtain ⟨W, hW⟩ : ∃ W, W = w9 := ⟨_, rfl⟩
            rw [← hgb, ← hW] at HE
            simp only [← hgb]
            rw [← hW]
            clear hgb hW HX HR9 HZ9 HB9 HR
            obtain ⟨q0, q1, q2, q3, q4⟩ := cells5 HE.out.2.1
            have hq0 := blk_frozen HE.out.2.1 0
            have hq1 := blk_frozen HE.out.2.1 1
            have hq2 := blk_frozen HE.out.2.1 2
            have hq3 := blk_frozen HE.out.2.1 3
            have hq4 := blk_frozen HE.out.2.1 4
            have hlq := blk_lt HE.out.2.1
            go_wp2_with fail
            clear q0 q1 q2 q3 q4 hq0 hq1 hq2 hq3 hq4 hlq
            obtain ⟨wf, hwf⟩ : ∃ wf, wf = set5 W gb (.int .i64 (N0 : Int)) (.int .i64 (N1 : Int)) (.bool ((N3 : Int) == 1)) (.int .i64 (N2 : Int)) (.slice A9 ni c9) := ⟨_, rfl⟩
            unfold set5 at hwf
            rw [← hwf]
            have hwf' : wf = set5 W gb (.int .i64 (N0 : Int)) (.int .i64 (N1 : Int)) (.bool ((N3 : Int) == 1)) (.int .i64 (N2 : Int)) (.slice A9 ni c9) := hwf
            clear hwf
            have hgf := set5_blk HE.out.2.1 (.int .i64 (N0 : Int)) (.int .i64 (N1 : Int)) (.bool ((N3 : Int) == 1)) (.int .i64 (N2 : Int)) (.slice A9 ni c9)
            have hzf : Zf w wf := by
              rw [hwf']
              refine ⟨HE.out.1.1.trans ((set5_turns W gb (.int .i64 (N0 : Int)) (.int .i64 (N1 : Int)) (.bool ((N3 : Int) == 1)) (.int .i64 (N2 : Int)) (.slice A9 ni c9)).toBelow HE.out.1.1.size (fun k e => by subst e; exact Nat.le_of_lt HE.out.2.2.1)), ?_⟩
              exact ((set5_turns W gb (.int .i64 (N0 : Int)) (.int .i64 (N1 : Int)) (.bool ((N3 : Int) == 1)) (.int .i64 (N2 : Int)) (.slice A9 ni c9)).block _ (blk_lt HE.out.1.2) (fun e => by have := HE.out.2.2.1; omega)).trans HE.out.1.2
            have hRf : Kd.R (Kd.int .u8) 5 wf w.heap.size (fun k => k ≠ gb ∧ k ≠ w.heap.size) (.slice A9 ni c9) (nmI (resN l 4)) := by
              rw [hwf']
              unfold set5
              exact Kd.R_far (Kd.R_far (Kd.R_far (Kd.R_far (Kd.R_far HE.out.2.2.2 (fun k hk => hk.1) _) (fun k hk => hk.1) _) (fun k hk => hk.1) _) (fun k hk => hk.1) _) (fun k hk => hk.1) _
            rw [← hwf'] at hgf
            have hCf : Kd.C (Kd.int .u8) wf A9 ni (nmI (resN l 4)) := by
              obtain ⟨A', c', e', _, hC'⟩ := Kd.R_reads hRf
              injection e' with e1 e2 e3
              rw [hlen4, ← e1] at hC'
              exact hC'
            obtain ⟨q, hq⟩ : ∃ q, q = okF ⟨(N0 : Int), (N1 : Int), (N3 : Int) == 1, (N2 : Int), nmI (resN l 4)⟩ := ⟨_, rfl⟩
            have hr := rright_any ⟨(N0 : Int), (N1 : Int), (N3 : Int) == 1, (N2 : Int), nmI (resN l 4)⟩ A9 ni c9 wf hlen4 hCf hc9
            rw [← hq] at hr
            have hrF : rF l = ⟨(N0 : Int), (N1 : Int), (N3 : Int) == 1, (N2 : Int), nmI (resN l 4)⟩ := by unfold rF; rw [← HNN.out.1, ← HNN.out.2.1, ← HNN.out.2.2.1, ← HNN.out.2.2.2]
            have hro : rOk l = q := by
              unfold rOk
              rw [HI.out.2.1 0 (by omega), HI.out.2.1 1 (by omega), HI.out.2.1 2 (by omega), HI.out.2.1 3 (by omega), hrF, hq]
              rfl
            have HRR := Lib.hid hr
            have HGF := Lib.hid (And.intro hgf (And.intro hRf hrF))
            have HZf := Lib.hid hzf
            have HRO := Lib.hid hro
            clear hr hgf hRf hCf hzf hro hq hwf' hrF HE
            refine HRR.out.mono ?_
            rintro r wg ⟨rfl, hBg⟩
            have HZ2 := Lib.hid (HZf.out.below hBg)
            have HG2 := Lib.hid (blk_below HGF.out.1 hBg)
            have HR2 := Lib.hid (Kd.R_below HGF.out.2.1 hBg)
            clear hBg HRR HZf
            cases q with
            | false =>
              have HNO := Lib.hid HRO.out
              obtain ⟨z0, z1, z2, z3, z4⟩ := cells5 HZ2.out.2
              have hz0 := blk_frozen HZ2.out.2 0
              have hz1 := blk_frozen HZ2.out.2 1
              have hz2 := blk_frozen HZ2.out.2 2
              have hz3 := blk_frozen HZ2.out.2 3
              have hz4 := blk_frozen HZ2.out.2 4
              have hlz := blk_lt HZ2.out.2
              go_wp2_with fail
              clear z0 z1 z2 z3 z4 hz0 hz1 hz2 hz3 hz4 hlz
              obtain ⟨we, hwe⟩ : ∃ we, we = set5 wg w.heap.size (.int .i64 0) (.int .i64 0) (.bool false) (.int .i64 0) (.slice none 0 0) := ⟨_, rfl⟩
              unfold set5 at hwe
              rw [← hwe]
              have hwe' : we = set5 wg w.heap.size (.int .i64 0) (.int .i64 0) (.bool false) (.int .i64 0) (.slice none 0 0) := hwe
              clear hwe
              have hze := set5_blk HZ2.out.2 (.int .i64 0) (.int .i64 0) (.bool false) (.int .i64 0) (.slice none 0 0)
              have hte := set5_turns wg w.heap.size (.int .i64 0) (.int .i64 0) (.bool false) (.int .i64 0) (.slice none 0 0)
              rw [← hwe'] at hze hte
              obtain ⟨z0, z1, z2, z3, z4⟩ := cells5 hze
              have hlz := blk_lt hze
              have HX := Lib.hid (And.intro hte hwe')
              clear hze hte hwe'
              refine bodyPost_ret (v := .tuple #[.agg #[.int .i64 0, .int .i64 0, .bool false, .int .i64 0, .slice none 0 0], .int .i64 3]) (by simp [results, Tryd.results33, go_sem, z0, z1, z2, z3, z4]) rfl ⟨HZ2.out.1.trans (HX.out.1.toBelow HZ2.out.1.size (fun k e => by subst e; exact Nat.le_refl _)), none, 0, 0, ?_, ?_, Nat.le_refl _, ?_⟩
              · rw [getB_ref, HNO.out]; rfl
              · rw [getB_ref, getE_ref, HNO.out]; rfl
              · rw [getB_ref, HNO.out]; exact nil_C _
            | true =>
              obtain ⟨p0, p1, p2, p3, p4⟩ := cells5 HG2.out
              have hlp := blk_lt HG2.out
              obtain ⟨z0, z1, z2, z3, z4⟩ := cells5 HZ2.out.2
              have hz0 := blk_frozen HZ2.out.2 0
              have hz1 := blk_frozen HZ2.out.2 1
              have hz2 := blk_frozen HZ2.out.2 2
              have hz3 := blk_frozen HZ2.out.2 3
              have hz4 := blk_frozen HZ2.out.2 4
              have hlz := blk_lt HZ2.out.2
              go_wp2_with fail
              clear p0 p1 p2 p3 p4 hlp
              clear z0 z1 z2 z3 z4 hz0 hz1 hz2 hz3 hz4 hlz
              obtain ⟨we, hwe⟩ : ∃ we, we = set5 wg w.heap.size (.int .i64 (N0 : Int)) (.int .i64 (N1 : Int)) (.bool ((N3 : Int) == 1)) (.int .i64 (N2 : Int)) (.slice A9 ni c9) := ⟨_, rfl⟩
              unfold set5 at hwe
              rw [← hwe]
              have hwe' : we = set5 wg w.heap.size (.int .i64 (N0 : Int)) (.int .i64 (N1 : Int)) (.bool ((N3 : Int) == 1)) (.int .i64 (N2 : Int)) (.slice A9 ni c9) := hwe
              clear hwe
              have hze := set5_blk HZ2.out.2 (.int .i64 (N0 : Int)) (.int .i64 (N1 : Int)) (.bool ((N3 : Int) == 1)) (.int .i64 (N2 : Int)) (.slice A9 ni c9)
              have hte := set5_turns wg w.heap.size (.int .i64 (N0 : Int)) (.int .i64 (N1 : Int)) (.bool ((N3 : Int) == 1)) (.int .i64 (N2 : Int)) (.slice A9 ni c9)
              rw [← hwe'] at hze hte
              obtain ⟨z0, z1, z2, z3, z4⟩ := cells5 hze
              have hlz := blk_lt hze
              have HX := Lib.hid (And.intro hte hwe')
              clear hze hte hwe'
              refine bodyPost_ret (v := .tuple #[.agg #[.int .i64 (N0 : Int), .int .i64 (N1 : Int), .bool ((N3 : Int) == 1), .int .i64 (N2 : Int), .slice A9 ni c9], .int .i64 0]) (by simp [results, Tryd.results33, go_sem, z0, z1, z2, z3, z4]) rfl ⟨HZ2.out.1.trans (HX.out.1.toBelow HZ2.out.1.size (fun k e => by subst e; exact Nat.le_refl _)), A9, ni, c9, ?_, ?_, hc9, ?_⟩
              · rw [getB_ref, HRO.out, if_pos rfl, HGF.out.2.2]; exact hlen4
              · rw [getB_ref, getE_ref, HRO.out, if_pos rfl, if_pos rfl, HGF.out.2.2]
              · rw [getB_ref, HRO.out, if_pos rfl, HGF.out.2.2, HX.out.2]
                have hRe : Kd.R (Kd.int .u8) 5 (set5 wg w.heap.size (.int .i64 (N0 : Int)) (.int .i64 (N1 : Int)) (.bool ((N3 : Int) == 1)) (.int .i64 (N2 : Int)) (.slice A9 ni c9)) w.heap.size (fun k => k ≠ gb ∧ k ≠ w.heap.size) (.slice A9 ni c9) (nmI (resN l 4)) := by
                  unfold set5
                  exact Kd.R_far (Kd.R_far (Kd.R_far (Kd.R_far (Kd.R_far HR2.out (fun k hk => hk.2) _) (fun k hk => hk.2) _) (fun k hk => hk.2) _) (fun k hk => hk.2) _) (fun k hk => hk.2) _
                obtain ⟨A', c', e', _, hC'⟩ := Kd.R_reads hRe
                injection e' with e1 e2 e3
                rw [hlen4, ← e1] at hC'
                exact hC'
        · skip
          refine value_ (by rfl) rfl (by go_simp; first | rfl | exact ⟨rfl, rfl⟩) ?_
          have HWc0 := Lib.hid (show Below wr.heap.size wr (wr.alloc (.cells #[.int .i64 0, .int .i64 0, .bool false, .int .i64 0, .slice none 0 0] 24)).drew from ((Below.refl wr.heap.size wr).alloc (Nat.le_refl _) _).drew)
          refine hK.out _ _ (HX.out _ HWc0.out) (fun hHeld1 => ?_)
          clear hK K
          refine norm_ (a' := ?_) ?_ ?_
          rotate_left
          · show Act.put _ (some 8) _ = _
            simp only [Act.put, List.setIfInBounds_toArray, List.set_cons_zero, List.set_cons_succ, i64_w, i32_w]
            rfl
          refine one_ (i := 13) (N := some 57) #[true, true, true, true, true, true, true, true, true, true, true, true, true, true, true, false, false, true, false] rfl rfl (by kernel_rfl) (by decide) (fun K hK => ?_)
          refine value_ (by rfl) rfl (by go_simp; first | rfl | exact ⟨rfl, rfl⟩) ?_
          have HWc := Lib.hid (show Below wr.heap.size wr ((wr.alloc (.cells #[.int .i64 0, .int .i64 0, .bool false, .int .i64 0, .slice none 0 0] 24)).alloc (.cells #[] 5)).drew from (((Below.refl wr.heap.size wr).alloc (Nat.le_refl _) _).alloc (by simp) _).drew)
          refine hK.out _ _ (HX.out _ HWc.out) (fun hHeld2 => ?_)
          clear hK K
          refine norm_ (a' := ?_) ?_ ?_
          rotate_left
          · show Act.put _ (some 57) _ = _
            simp only [Act.put, List.setIfInBounds_toArray, List.set_cons_zero, List.set_cons_succ, i64_w, i32_w]
            rfl
          refine one_ (i := 15) (N := some 59) #[true, true, true, true, true, true, true, true, true, true, true, true, true, true, true, true, false, true, false] rfl rfl (by kernel_rfl) (by decide) (fun K hK => ?_)
          have hsz : (((wr.alloc (.cells #[.int .i64 0, .int .i64 0, .bool false, .int .i64 0, .slice none 0 0] 24)).alloc (.cells #[] 5)).drew).heap.size = wr.heap.size + 2 := by simp
          refine Kd.R_append_rows_step (w0 := ((wr.alloc (.cells #[.int .i64 0, .int .i64 0, .bool false, .int .i64 0, .slice none 0 0] 24)).alloc (.cells #[] 5)).drew) (Kd.int .u8) (Rr := fun x cs => cs = [.int .u8 x]) w.heap.size (by rfl) _ _ 22 5 (.int .u8 0) 1 (by rfl) Tryd.underlying22 infoU8 rfl (by decide) (by decide) (.slice (some ⟨wr.heap.size + 1, 0, none⟩) 0 0) [] (nmI (resN l 4)) Ai ni ci (fun k => k ≠ wr.heap.size ∧ k ≠ w.heap.size) (fun _ => False) (by rfl) (by rfl) ?hoc ?hrc (fun x cs h => h) (fun _ h => h.elim) ?hfc ?hbc ?hbasec ?hlc ?hkc
          case hfc =>
            intro k hk
            rw [hsz] at hk
            have := hwr
            first | (show k ≠ w.heap.size; omega) | (refine ⟨?_, ?_⟩ <;> omega)
          case hoc => exact Kd.R_drew (by have h := empty_u8' (w := wr.alloc (.cells #[.int .i64 0, .int .i64 0, .bool false, .int .i64 0, .slice none 0 0] 24)) (base := w.heap.size) (ok := fun k => k ≠ wr.heap.size ∧ k ≠ w.heap.size) (by simp; omega) ⟨by simp, by simp; omega⟩; rw [World.size_alloc] at h; exact h)
          case hrc => exact Kd.C_below HI.out.2.2.2.2 (HZ.out.1.trans (HWc.out.mono HZ.out.1.size))
          case hbc => exact (Below.refl (((wr.alloc (.cells #[.int .i64 0, .int .i64 0, .bool false, .int .i64 0, .slice none 0 0] 24)).alloc (.cells #[] 5)).drew).heap.size (((wr.alloc (.cells #[.int .i64 0, .int .i64 0, .bool false, .int .i64 0, .slice none 0 0] 24)).alloc (.cells #[] 5)).drew)).mono (by rw [hsz]; omega)
          case hbasec => rw [hsz]; omega
          case hlc => show (0 + ni) * 1 ≤ _; omega
          intro v9 w9 hR9 _ hg9 _
          rw [List.nil_append] at hR9
          have hB9 : Below wr.heap.size wr w9 := Below.grown HWc.out hg9 (by rw [hsz]; omega) (fun k e => by simp [Value.ownBlock] at e; omega)
          have HB9 := Lib.hid hB9
          have HZ9 := Lib.hid (HZ.out.below hB9)
          have HGB := Lib.hid (show w9.heap[wr.heap.size]? = some (.cells #[.int .i64 0, .int .i64 0, .bool false, .int .i64 0, .slice none 0 0] 24 (0, 0)) from (hg9.block _ (by rw [hsz]; omega) (fun e => by simp [Value.ownBlock] at e)).trans (by have h := heap_alloc_new wr (.cells #[.int .i64 0, .int .i64 0, .bool false, .int .i64 0, .slice none 0 0] 24); show ((wr.alloc (.cells #[.int .i64 0, .int .i64 0, .bool false, .int .i64 0, .slice none 0 0] 24)).alloc (.cells #[] 5)).heap[wr.heap.size]? = _; rw [heap_alloc_old _ _ (by simp)]; exact h))
          obtain ⟨A9, c9, rfl, hc9, _⟩ := Kd.R_reads hR9
          have HR9 := Lib.hid (And.intro hR9 hc9)
          rw [hlen4] at HR9 ⊢
          clear hR9 hB9 hc9 hg9 hsz
          refine hK.out _ _ (HX.out _ HB9.out) (fun hHeld3 => ?_)
          clear hK K
          refine norm_ (a' := ?_) ?_ ?_
          rotate_left
          · show Act.put _ (some 59) _ = _
            simp only [Act.put, List.setIfInBounds_toArray, List.set_cons_zero, List.set_cons_succ, i64_w, i32_w]
            rfl
          refine pure_ (i := 16) (N := some 60) (v := ?_) (a' := ?_) #[true, true, true, true, true, true, true, true, true, true, true, true, true, true, true, true, true, true, false] rfl rfl (by kernel_rfl) (fun _ _ _ h => h) (Or.inl ⟨by rfl, ?_⟩) ?_ ?_
          rotate_left
          · intro w'
            go_simp
            first | done | with_reducible rfl
          rotate_left
          · simp only [Act.put, List.setIfInBounds_toArray, List.set_cons_zero, List.set_cons_succ, i64_w, i32_w]
            rfl
          refine tail_list 18 (t := [18]) (fuel := 0) rfl rfl rfl (by kernel_rfl) (by decide) ?_
          have HE := Lib.hid (show EndG w (w9) (wr.heap.size) (.slice A9 ni c9) (nmI (resN l 4)) from ⟨HZ9.out, HGB.out, hwr, HR9.out.1⟩)
          have hc9 := HR9.out.2
          obtain ⟨gb, hgb⟩ : ∃ g, g = wr.heap.size := ⟨_, rfl⟩
          obtain ⟨W, hW⟩ : ∃ W, W = w9 := ⟨_, rfl⟩
          rw [← hgb, ← hW] at HE
          simp only [← hgb]
          rw [← hW]
          clear hgb hW HX HR9 HZ9 HB9 HR
          obtain ⟨q0, q1, q2, q3, q4⟩ := cells5 HE.out.2.1
          have hq0 := blk_frozen HE.out.2.1 0
          have hq1 := blk_frozen HE.out.2.1 1
          have hq2 := blk_frozen HE.out.2.1 2
          have hq3 := blk_frozen HE.out.2.1 3
          have hq4 := blk_frozen HE.out.2.1 4
          have hlq := blk_lt HE.out.2.1
          go_wp2_with fail
          clear q0 q1 q2 q3 q4 hq0 hq1 hq2 hq3 hq4 hlq
          obtain ⟨wf, hwf⟩ : ∃ wf, wf = set5 W gb (.int .i64 (N0 : Int)) (.int .i64 (N1 : Int)) (.bool ((N3 : Int) == 1)) (.int .i64 (N2 : Int)) (.slice A9 ni c9) := ⟨_, rfl⟩
          unfold set5 at hwf
          rw [← hwf]
          have hwf' : wf = set5 W gb (.int .i64 (N0 : Int)) (.int .i64 (N1 : Int)) (.bool ((N3 : Int) == 1)) (.int .i64 (N2 : Int)) (.slice A9 ni c9) := hwf
          clear hwf
          have hgf := set5_blk HE.out.2.1 (.int .i64 (N0 : Int)) (.int .i64 (N1 : Int)) (.bool ((N3 : Int) == 1)) (.int .i64 (N2 : Int)) (.slice A9 ni c9)
          have hzf : Zf w wf := by
            rw [hwf']
            refine ⟨HE.out.1.1.trans ((set5_turns W gb (.int .i64 (N0 : Int)) (.int .i64 (N1 : Int)) (.bool ((N3 : Int) == 1)) (.int .i64 (N2 : Int)) (.slice A9 ni c9)).toBelow HE.out.1.1.size (fun k e => by subst e; exact Nat.le_of_lt HE.out.2.2.1)), ?_⟩
            exact ((set5_turns W gb (.int .i64 (N0 : Int)) (.int .i64 (N1 : Int)) (.bool ((N3 : Int) == 1)) (.int .i64 (N2 : Int)) (.slice A9 ni c9)).block _ (blk_lt HE.out.1.2) (fun e => by have := HE.out.2.2.1; omega)).trans HE.out.1.2
          have hRf : Kd.R (Kd.int .u8) 5 wf w.heap.size (fun k => k ≠ gb ∧ k ≠ w.heap.size) (.slice A9 ni c9) (nmI (resN l 4)) := by
            rw [hwf']
            unfold set5
            exact Kd.R_far (Kd.R_far (Kd.R_far (Kd.R_far (Kd.R_far HE.out.2.2.2 (fun k hk => hk.1) _) (fun k hk => hk.1) _) (fun k hk => hk.1) _) (fun k hk => hk.1) _) (fun k hk => hk.1) _
          rw [← hwf'] at hgf
          have hCf : Kd.C (Kd.int .u8) wf A9 ni (nmI (resN l 4)) := by
            obtain ⟨A', c', e', _, hC'⟩ := Kd.R_reads hRf
            injection e' with e1 e2 e3
            rw [hlen4, ← e1] at hC'
            exact hC'
          obtain ⟨q, hq⟩ : ∃ q, q = okF ⟨(N0 : Int), (N1 : Int), (N3 : Int) == 1, (N2 : Int), nmI (resN l 4)⟩ := ⟨_, rfl⟩
          have hr := rright_any ⟨(N0 : Int), (N1 : Int), (N3 : Int) == 1, (N2 : Int), nmI (resN l 4)⟩ A9 ni c9 wf hlen4 hCf hc9
          rw [← hq] at hr
          have hrF : rF l = ⟨(N0 : Int), (N1 : Int), (N3 : Int) == 1, (N2 : Int), nmI (resN l 4)⟩ := by unfold rF; rw [← HNN.out.1, ← HNN.out.2.1, ← HNN.out.2.2.1, ← HNN.out.2.2.2]
          have hro : rOk l = q := by
            unfold rOk
            rw [HI.out.2.1 0 (by omega), HI.out.2.1 1 (by omega), HI.out.2.1 2 (by omega), HI.out.2.1 3 (by omega), hrF, hq]
            rfl
          have HRR := Lib.hid hr
          have HGF := Lib.hid (And.intro hgf (And.intro hRf hrF))
          have HZf := Lib.hid hzf
          have HRO := Lib.hid hro
          clear hr hgf hRf hCf hzf hro hq hwf' hrF HE
          refine HRR.out.mono ?_
          rintro r wg ⟨rfl, hBg⟩
          have HZ2 := Lib.hid (HZf.out.below hBg)
          have HG2 := Lib.hid (blk_below HGF.out.1 hBg)
          have HR2 := Lib.hid (Kd.R_below HGF.out.2.1 hBg)
          clear hBg HRR HZf
          cases q with
          | false =>
            have HNO := Lib.hid HRO.out
            obtain ⟨z0, z1, z2, z3, z4⟩ := cells5 HZ2.out.2
            have hz0 := blk_frozen HZ2.out.2 0
            have hz1 := blk_frozen HZ2.out.2 1
            have hz2 := blk_frozen HZ2.out.2 2
            have hz3 := blk_frozen HZ2.out.2 3
            have hz4 := blk_frozen HZ2.out.2 4
            have hlz := blk_lt HZ2.out.2
            go_wp2_with fail
            clear z0 z1 z2 z3 z4 hz0 hz1 hz2 hz3 hz4 hlz
            obtain ⟨we, hwe⟩ : ∃ we, we = set5 wg w.heap.size (.int .i64 0) (.int .i64 0) (.bool false) (.int .i64 0) (.slice none 0 0) := ⟨_, rfl⟩
            unfold set5 at hwe
            rw [← hwe]
            have hwe' : we = set5 wg w.heap.size (.int .i64 0) (.int .i64 0) (.bool false) (.int .i64 0) (.slice none 0 0) := hwe
            clear hwe
            have hze := set5_blk HZ2.out.2 (.int .i64 0) (.int .i64 0) (.bool false) (.int .i64 0) (.slice none 0 0)
            have hte := set5_turns wg w.heap.size (.int .i64 0) (.int .i64 0) (.bool false) (.int .i64 0) (.slice none 0 0)
            rw [← hwe'] at hze hte
            obtain ⟨z0, z1, z2, z3, z4⟩ := cells5 hze
            have hlz := blk_lt hze
            have HX := Lib.hid (And.intro hte hwe')
            clear hze hte hwe'
            refine bodyPost_ret (v := .tuple #[.agg #[.int .i64 0, .int .i64 0, .bool false, .int .i64 0, .slice none 0 0], .int .i64 3]) (by simp [results, Tryd.results33, go_sem, z0, z1, z2, z3, z4]) rfl ⟨HZ2.out.1.trans (HX.out.1.toBelow HZ2.out.1.size (fun k e => by subst e; exact Nat.le_refl _)), none, 0, 0, ?_, ?_, Nat.le_refl _, ?_⟩
            · rw [getB_ref, HNO.out]; rfl
            · rw [getB_ref, getE_ref, HNO.out]; rfl
            · rw [getB_ref, HNO.out]; exact nil_C _
          | true =>
            obtain ⟨p0, p1, p2, p3, p4⟩ := cells5 HG2.out
            have hlp := blk_lt HG2.out
            obtain ⟨z0, z1, z2, z3, z4⟩ := cells5 HZ2.out.2
            have hz0 := blk_frozen HZ2.out.2 0
            have hz1 := blk_frozen HZ2.out.2 1
            have hz2 := blk_frozen HZ2.out.2 2
            have hz3 := blk_frozen HZ2.out.2 3
            have hz4 := blk_frozen HZ2.out.2 4
            have hlz := blk_lt HZ2.out.2
            go_wp2_with fail
            clear p0 p1 p2 p3 p4 hlp
            clear z0 z1 z2 z3 z4 hz0 hz1 hz2 hz3 hz4 hlz
            obtain ⟨we, hwe⟩ : ∃ we, we = set5 wg w.heap.size (.int .i64 (N0 : Int)) (.int .i64 (N1 : Int)) (.bool ((N3 : Int) == 1)) (.int .i64 (N2 : Int)) (.slice A9 ni c9) := ⟨_, rfl⟩
            unfold set5 at hwe
            rw [← hwe]
            have hwe' : we = set5 wg w.heap.size (.int .i64 (N0 : Int)) (.int .i64 (N1 : Int)) (.bool ((N3 : Int) == 1)) (.int .i64 (N2 : Int)) (.slice A9 ni c9) := hwe
            clear hwe
            have hze := set5_blk HZ2.out.2 (.int .i64 (N0 : Int)) (.int .i64 (N1 : Int)) (.bool ((N3 : Int) == 1)) (.int .i64 (N2 : Int)) (.slice A9 ni c9)
            have hte := set5_turns wg w.heap.size (.int .i64 (N0 : Int)) (.int .i64 (N1 : Int)) (.bool ((N3 : Int) == 1)) (.int .i64 (N2 : Int)) (.slice A9 ni c9)
            rw [← hwe'] at hze hte
            obtain ⟨z0, z1, z2, z3, z4⟩ := cells5 hze
            have hlz := blk_lt hze
            have HX := Lib.hid (And.intro hte hwe')
            clear hze hte hwe'
            refine bodyPost_ret (v := .tuple #[.agg #[.int .i64 (N0 : Int), .int .i64 (N1 : Int), .bool ((N3 : Int) == 1), .int .i64 (N2 : Int), .slice A9 ni c9], .int .i64 0]) (by simp [results, Tryd.results33, go_sem, z0, z1, z2, z3, z4]) rfl ⟨HZ2.out.1.trans (HX.out.1.toBelow HZ2.out.1.size (fun k e => by subst e; exact Nat.le_refl _)), A9, ni, c9, ?_, ?_, hc9, ?_⟩
            · rw [getB_ref, HRO.out, if_pos rfl, HGF.out.2.2]; exact hlen4
            · rw [getB_ref, getE_ref, HRO.out, if_pos rfl, if_pos rfl, HGF.out.2.2]
            · rw [getB_ref, HRO.out, if_pos rfl, HGF.out.2.2, HX.out.2]
              have hRe : Kd.R (Kd.int .u8) 5 (set5 wg w.heap.size (.int .i64 (N0 : Int)) (.int .i64 (N1 : Int)) (.bool ((N3 : Int) == 1)) (.int .i64 (N2 : Int)) (.slice A9 ni c9)) w.heap.size (fun k => k ≠ gb ∧ k ≠ w.heap.size) (.slice A9 ni c9) (nmI (resN l 4)) := by
                unfold set5
                exact Kd.R_far (Kd.R_far (Kd.R_far (Kd.R_far (Kd.R_far HR2.out (fun k hk => hk.2) _) (fun k hk => hk.2) _) (fun k hk => hk.2) _) (fun k hk => hk.2) _) (fun k hk => hk.2) _
              obtain ⟨A', c', e', _, hC'⟩ := Kd.R_reads hRe
              injection e' with e1 e2 e3
              rw [hlen4, ← e1] at hC'
              exact hC'
end Go.Proofs.YthfgkkpibkkiaaaDoor
