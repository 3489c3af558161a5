/- ShaPads' contract: bytes with more of one byte behind. -/
import Derived.Test.YtbnkpfflfiehjaaLaws02b
set_option linter.unusedVariables false
set_option linter.unusedSimpArgs false
namespace Go.Proofs.Ytbnkpfflfiehjaa
open Go.RowKit Go.Proofs.YtbnkpfflfiehjaaW.PrintWords Go.Proofs.YtbnkpfflfiehjaaW.PrintLast

theorem sum_len (bs : List (BitVec 8)) : (sum bs).length = 32 := out_length _
set_option maxRecDepth 100000 in
set_option maxHeartbeats 8000000 in
theorem pads_law (w : World) (x : List Int) (A : Option Addr) (n0 c : Nat) (h : (Kd.slice 5 (Kd.int .u8)).K w x [.slice A n0 c]) (g : goodB x) (ni : Int) (wn : (Lit.int .u8 ni).wf = true) (ci : Int) (wc : (Lit.int .u8 ci).wf = true) :
    Calls Try.prog 7 #[.slice A n0 c, .int .u8 ni, .int .u8 ci] w fun e w' => e = .returned (.bool true) ∧ Below w.heap.size w w' := by
  obtain ⟨A', c', e, l, hr⟩ := h
  obtain ⟨rfl, rfl, rfl⟩ : A = A' ∧ n0 = x.length ∧ c = c' := by injection e with e _; injection e with a b c; exact ⟨a, b, c⟩
  obtain ⟨bs, rfl⟩ := bytes_of x g.2
  obtain ⟨cb, rfl⟩ := byte_of ci wc
  obtain ⟨nb, rfl⟩ := byte_of ni wn
  obtain ⟨n, hn, hn256⟩ : ∃ n : Nat, byt nb = (n : Int) ∧ n < 256 := ⟨nb.toNat, rfl, nb.isLt⟩
  rw [hn]
  rw [List.length_map] at l hr ⊢
  have hg := g.1
  rw [List.length_map] at hg
  have HC := Lib.hid hr
  clear e hr g hn wn wc
  by_cases hbig : 20000 < bs.length
  · have d1 : (bs.length : Int) > 20000 := by omega
    go_enter Try.func7, Try.ntmps7
    go_wp2_with fail
    refine (head_any w).mono ?_
    rintro e w1 ⟨rfl, hB⟩
    have HB := Lib.hid hB
    clear hB
    go_wp2_with fail
    go_ret
    exact ⟨rfl, HB.out⟩
  · have d1 : ¬ ((bs.length : Int) > 20000) := by omega
    go_enter Try.func7, Try.ntmps7
    go_wp2_with fail
    refine (head_any w).mono ?_
    rintro e w1 ⟨rfl, hB⟩
    have HB := Lib.hid hB
    clear hB
    go_wp2_with (at_builtin; refine Kd.R_append_rows (w0 := w1) (Kd.int .u8) (Rr := fun x cs => cs = [.int .u8 x]) w1.heap.size rfl _ _ 22 5 (.int .u8 0) 1 rfl Try.underlying22 infoU8 rfl (by decide) (by decide) (.slice (some ⟨w1.heap.size, 0, none⟩) 0 0) [] (bs.map byt) A bs.length c (fun _ => True) (fun _ => False) rfl rfl ?ho ?hr (fun x cs h => h) (fun _ h => h.elim) (fun _ _ => trivial) ?hb ?hbase ?hl ?hk)
    case ho => exact Kd.R_of_own (World.ownsRow_made (base := w1.heap.size) (e := 5) (size := 1) w1 #[] 0 (by simp) (by decide) rfl) (fun _ _ => trivial)
    case hr => exact Kd.C_below HC.out (HB.out.trans (((Below.refl _ _).alloc (Nat.le_refl _) _).mono HB.out.size))
    case hb => exact (Below.refl _ _).alloc (Nat.le_refl _) _
    case hbase => simp
    case hl => simp; omega
    intro v2 w2 hR2 hB2 hg2 hat2
    have HB1 := Lib.hid HB.out
    have HR2 := Lib.hid hR2
    have HB2 := Lib.hid hB2
    clear hR2 hB2 hg2 hat2
    go_wp2_with fail
    go_loopw [9, 8] (fun v va wr => ∃ i : Nat, i ≤ n ∧ v = .int .i64 i ∧ Kd.R (Kd.int .u8) 5 wr w1.heap.size (fun _ => True) va ((bs ++ List.replicate i cb).map byt) ∧ Below w1.heap.size w1 wr) (fun v _ _ => 256 - (intOf v).toNat)
    case atStart => exact ⟨0, by omega, rfl, by simpa using HR2.out, HB2.out⟩
    case round =>
      obtain ⟨i, hi, rfl, hR, hB⟩ := hrel
      clear HR2 HB2
      have hlen : ((bs ++ List.replicate i cb).map byt).length = bs.length + i := by simp
      obtain ⟨Ax, cx, rfl, hcx, hCx, hAx⟩ := R_addr hR
      have HR := Lib.hid hR
      have HB := Lib.hid hB
      have HLEN := Lib.hid hlen
      by_cases hin : i < n
      · have d2 : (i : Int) < (n : Int) := by omega
        clear hR hB hlen hCx hcx hAx
        go_wp2_with (at_builtin; refine Kd.R_append (Kd.int .u8) (w0 := w1) w1.heap.size rfl _ _ 22 5 (.int .u8 0) 1 rfl Try.underlying22 infoU8 rfl (by decide) (by decide) (.slice Ax ((bs ++ List.replicate i cb).map byt).length cx) ((bs ++ List.replicate i cb).map byt) (byt cb) [.int .u8 (byt cb)] (fun _ => True) (fun _ => False) rfl rfl ?hp (fun _ h => h.elim) (fun _ _ => trivial) ?HO ?HB ?hb ?hl2 ?hk2)
        case hp => exact rfl
        case HO => exact HR.out
        case HB => exact HB.out
        case hb => exact HB.out.size
        case hl2 => rw [HLEN.out]; omega
        intro v3 w3 hR3 hB3 hg3 hat3
        have e : (bs ++ List.replicate (i + 1) cb).map byt = List.map byt bs ++ (List.replicate i (byt cb) ++ [byt cb]) := by
          rw [List.replicate_succ']
          simp
        rw [← e] at hR3
        have HR3 := Lib.hid hR3
        have HB3 := Lib.hid hB3
        clear e hR3 hB3 hg3 hat3
        go_wp2_with fail
        exact ⟨⟨i + 1, by omega, by go_num, HR3.out, HB3.out⟩, by simp [intOf]; omega⟩
      · have d2 : ¬ ((i : Int) < (n : Int)) := by omega
        obtain ⟨all, hall⟩ : ∃ all, all = bs ++ List.replicate i cb := ⟨_, rfl⟩
        rw [← hall] at hCx hcx hlen ⊢
        have hal : all.length = bs.length + i := by rw [hall]; simp
        have hdrop : all.drop bs.length = List.replicate i cb := by rw [hall, List.drop_left']; rfl
        have e2 : (all.map byt).length = all.length := List.length_map ..
        obtain ⟨lx, hlx⟩ : ∃ lx, lx = all.length := ⟨_, rfl⟩
        rw [e2, ← hlx] at hCx hcx ⊢
        have hCr := C_rest (m := bs.length) (c := cx) (bs := all) (by rw [← hlx]; exact hCx) (by omega) (by omega)
        rw [hdrop, List.length_replicate, show i = lx - bs.length by omega] at hCr
        have HCX := Lib.hid hCx
        have HCR := Lib.hid hCr
        have HLX := Lib.hid hlx
        have hi255 : lx < 30000 := by omega
        have hlb : bs.length ≤ lx := by omega
        have HIE := Lib.hid (show lx - bs.length = (List.replicate (lx - bs.length) cb).length by simp)
        clear hCx hCr hall hal hdrop e2 hlx hlen hAx hR HR HLEN
        go_upto_region 9 with (fail)
        refine start_ (S := fun w' => Below wr.heap.size wr w') (ds := [21]) (n := 22) #[false, false, false, false, false, false, false, false, false, false, false, false, false, false, false, false, false, false, false, false, false, false] rfl rfl rfl ?hS0 (fun hHeld => ?hrun)
        case hS0 => exact (Below.refl _ _).drew
        case hrun =>
          refine pure_ (i := 0) (N := some 28) (v := ?_) (a' := ?_) #[true, false, false, false, false, false, false, false, false, false, false, false, false, false, false, false, false, false, false, false, false, false] rfl rfl (by kernel_rfl) (fun _ _ _ h => h) (Or.inl ⟨by rfl, ?_⟩) ?_ ?_
          rotate_left
          · intro w'
            go_simp
            first | done | with_reducible rfl
          rotate_left
          · simp only [Act.put, List.setIfInBounds_toArray, List.set_cons_zero, List.set_cons_succ, i64_w, i32_w]
            rfl
          refine pure_ (i := 1) (N := some 29) (v := ?_) (a' := ?_) #[true, true, false, false, false, false, false, false, false, false, false, false, false, false, false, false, false, false, false, false, false, false] rfl rfl (by kernel_rfl) (fun _ _ _ h => h) (Or.inl ⟨by rfl, ?_⟩) ?_ ?_
          rotate_left
          · intro w'
            go_simp
            first | done | with_reducible rfl
          rotate_left
          · simp only [Act.put, List.setIfInBounds_toArray, List.set_cons_zero, List.set_cons_succ, i64_w, i32_w]
            rfl
          refine pure_ (i := 2) (N := some 30) (v := ?_) (a' := ?_) #[true, true, true, false, false, false, false, false, false, false, false, false, false, false, false, false, false, false, false, false, false, false] rfl rfl (by kernel_rfl) (fun _ _ _ h => h) (Or.inl ⟨by rfl, ?_⟩) ?_ ?_
          rotate_left
          · intro w'
            go_simp
            first | done | with_reducible rfl
          rotate_left
          · simp only [Act.put, List.setIfInBounds_toArray, List.set_cons_zero, List.set_cons_succ, i64_w, i32_w]
            rfl
          refine pure_ (i := 4) (N := some 32) (v := ?_) (a' := ?_) #[true, true, true, false, true, false, false, false, false, false, false, false, false, false, false, false, false, false, false, false, false, false] rfl rfl (by kernel_rfl) (fun _ _ _ h => h) (Or.inl ⟨by rfl, ?_⟩) ?_ ?_
          rotate_left
          · intro w'
            go_simp
            first | done | with_reducible rfl
          rotate_left
          · simp only [Act.put, List.setIfInBounds_toArray, List.set_cons_zero, List.set_cons_succ, i64_w, i32_w]
            rfl
          refine one_ (i := 3) (N := some 31) #[true, true, true, true, true, false, false, false, false, false, false, false, false, false, false, false, false, false, false, false, false, false] rfl rfl (by kernel_rfl) (by decide) (fun K hK => ?_)
          refine goes_ Try.func9 (by kernel_rfl) rfl #[.slice Ax lx cx] (by rfl) rfl rfl (by (try simp only [List.map_toArray, List.map_cons, List.map_nil]); first | done | rfl) ?_
          refine (sum_n lx cx Ax all _ HLX.out (Kd.C_below HCX.out hHeld) hcx (by omega)).mono ?_
          rintro e w' ⟨rfl, hB⟩
          refine ⟨_, rfl, ?_⟩
          refine hK.out _ _ (below_then hHeld hHeld.size hB) (fun hHeld1 => ?_)
          clear hK K
          refine norm_ (a' := ?_) ?_ ?_
          rotate_left
          · show Act.put _ (some 31) _ = _
            simp only [Act.put, List.setIfInBounds_toArray, List.set_cons_zero, List.set_cons_succ, i64_w, i32_w]
            rfl
          refine one_ (i := 5) (N := some 33) #[true, true, true, true, true, true, false, false, false, false, false, false, false, false, false, false, false, false, false, false, false, false] rfl rfl (by kernel_rfl) (by decide) (fun K hK => ?_)
          refine goes_ Try.func10 (by kernel_rfl) rfl #[.slice Ax lx cx] (by rfl) rfl rfl (by (try simp only [List.map_toArray, List.map_cons, List.map_nil]); first | done | rfl) ?_
          refine (sum_ref_n lx cx Ax all _ HLX.out (Kd.C_below HCX.out hHeld1) hcx (by omega)).mono ?_
          rintro e w' ⟨rfl, hB⟩
          refine ⟨_, rfl, ?_⟩
          refine hK.out _ _ (below_then hHeld1 hHeld1.size hB) (fun hHeld2 => ?_)
          clear hK K
          refine norm_ (a' := ?_) ?_ ?_
          rotate_left
          · show Act.put _ (some 33) _ = _
            simp only [Act.put, List.setIfInBounds_toArray, List.set_cons_zero, List.set_cons_succ, i64_w, i32_w]
            rfl
          refine pure_ (i := 6) (N := some 34) (v := ?_) (a' := ?_) #[true, true, true, true, true, true, true, false, false, false, false, false, false, false, false, false, false, false, false, false, false, false] rfl rfl (by kernel_rfl) (fun _ _ _ h => h) (Or.inl ⟨by rfl, ?_⟩) ?_ ?_
          rotate_left
          · intro w'
            go_simp; rw [eq_sums _ _ (sum_len _) (sum_len _), decide_eq_true rfl]; simp only [Result.andThen]
            first | done | with_reducible rfl
          rotate_left
          · simp only [Act.put, List.setIfInBounds_toArray, List.set_cons_zero, List.set_cons_succ, i64_w, i32_w]
            rfl
          refine pure_ (i := 7) (N := some 35) (v := ?_) (a' := ?_) #[true, true, true, true, true, true, true, true, false, false, false, false, false, false, false, false, false, false, false, false, false, false] rfl rfl (by kernel_rfl) (fun _ _ _ h => h) (Or.inl ⟨by rfl, ?_⟩) ?_ ?_
          rotate_left
          · intro w'
            go_simp
            first | done | with_reducible rfl
          rotate_left
          · simp only [Act.put, List.setIfInBounds_toArray, List.set_cons_zero, List.set_cons_succ, i64_w, i32_w]
            rfl
          refine pure_ (i := 8) (N := some 36) (v := ?_) (a' := ?_) #[true, true, true, true, true, true, true, true, true, false, false, false, false, false, false, false, false, false, false, false, false, false] rfl rfl (by kernel_rfl) (fun _ _ _ h => h) (Or.inl ⟨by rfl, ?_⟩) ?_ ?_
          rotate_left
          · intro w'
            go_simp
            first | done | with_reducible rfl
          rotate_left
          · simp only [Act.put, List.setIfInBounds_toArray, List.set_cons_zero, List.set_cons_succ, i64_w, i32_w]
            rfl
          refine pure_ (i := 9) (N := some 37) (v := ?_) (a' := ?_) #[true, true, true, true, true, true, true, true, true, true, false, false, false, false, false, false, false, false, false, false, false, false] rfl rfl (by kernel_rfl) (fun _ _ _ h => h) (Or.inl ⟨by rfl, ?_⟩) ?_ ?_
          rotate_left
          · intro w'
            go_simp
            first | done | with_reducible rfl
          rotate_left
          · simp only [Act.put, List.setIfInBounds_toArray, List.set_cons_zero, List.set_cons_succ, i64_w, i32_w]
            rfl
          refine pure_ (i := 10) (N := some 38) (v := ?_) (a' := ?_) #[true, true, true, true, true, true, true, true, true, true, true, false, false, false, false, false, false, false, false, false, false, false] rfl rfl (by kernel_rfl) (fun _ _ _ h => h) (Or.inl ⟨by rfl, ?_⟩) ?_ ?_
          rotate_left
          · intro w'
            go_simp
            first | done | with_reducible rfl
          rotate_left
          · simp only [Act.put, List.setIfInBounds_toArray, List.set_cons_zero, List.set_cons_succ, i64_w, i32_w]
            rfl
          refine pure_ (i := 11) (N := some 39) (v := ?_) (a' := ?_) #[true, true, true, true, true, true, true, true, true, true, true, true, false, false, false, false, false, false, false, false, false, false] rfl rfl (by kernel_rfl) (fun _ _ _ h => h) (Or.inl ⟨by rfl, ?_⟩) ?_ ?_
          rotate_left
          · intro w'
            go_simp
            first | done | with_reducible rfl
          rotate_left
          · simp only [Act.put, List.setIfInBounds_toArray, List.set_cons_zero, List.set_cons_succ, i64_w, i32_w]
            rfl
          refine pure_ (i := 12) (N := some 40) (v := ?_) (a' := ?_) #[true, true, true, true, true, true, true, true, true, true, true, true, true, false, false, false, false, false, false, false, false, false] rfl rfl (by kernel_rfl) (fun _ _ _ h => h) (Or.inl ⟨by rfl, ?_⟩) ?_ ?_
          rotate_left
          · intro w'
            go_simp
            first | done | with_reducible rfl
          rotate_left
          · simp only [Act.put, List.setIfInBounds_toArray, List.set_cons_zero, List.set_cons_succ, i64_w, i32_w]
            rfl
          refine pure_ (i := 14) (N := some 42) (v := ?_) (a' := ?_) #[true, true, true, true, true, true, true, true, true, true, true, true, true, false, true, false, false, false, false, false, false, false] rfl rfl (by kernel_rfl) (fun _ _ _ h => h) (Or.inl ⟨by rfl, ?_⟩) ?_ ?_
          rotate_left
          · intro w'
            go_simp
            first | done | with_reducible rfl
          rotate_left
          · simp only [Act.put, List.setIfInBounds_toArray, List.set_cons_zero, List.set_cons_succ, i64_w, i32_w]
            rfl
          refine pure_ (i := 15) (N := some 43) (v := ?_) (a' := ?_) #[true, true, true, true, true, true, true, true, true, true, true, true, true, false, true, true, false, false, false, false, false, false] rfl rfl (by kernel_rfl) (fun _ _ _ h => h) (Or.inl ⟨by rfl, ?_⟩) ?_ ?_
          rotate_left
          · intro w'
            go_simp
            first | done | with_reducible rfl
          rotate_left
          · simp only [Act.put, List.setIfInBounds_toArray, List.set_cons_zero, List.set_cons_succ, i64_w, i32_w]
            rfl
          refine pure_ (i := 16) (N := some 44) (v := ?_) (a' := ?_) #[true, true, true, true, true, true, true, true, true, true, true, true, true, false, true, true, true, false, false, false, false, false] rfl rfl (by kernel_rfl) (fun _ _ _ h => h) (Or.inl ⟨by rfl, ?_⟩) ?_ ?_
          rotate_left
          · intro w'
            go_simp
            first | done | with_reducible rfl
          rotate_left
          · simp only [Act.put, List.setIfInBounds_toArray, List.set_cons_zero, List.set_cons_succ, i64_w, i32_w]
            rfl
          refine pure_ (i := 17) (N := some 45) (v := ?_) (a' := ?_) #[true, true, true, true, true, true, true, true, true, true, true, true, true, false, true, true, true, true, false, false, false, false] rfl rfl (by kernel_rfl) (fun _ _ _ h => h) (Or.inl ⟨by rfl, ?_⟩) ?_ ?_
          rotate_left
          · intro w'
            go_simp
            first | done | with_reducible rfl
          rotate_left
          · simp only [Act.put, List.setIfInBounds_toArray, List.set_cons_zero, List.set_cons_succ, i64_w, i32_w]
            rfl
          refine one_ (i := 13) (N := some 41) #[true, true, true, true, true, true, true, true, true, true, true, true, true, true, true, true, true, true, false, false, false, false] rfl rfl (by kernel_rfl) (by decide) (fun K hK => ?_)
          refine goes_ Try.func9 (by kernel_rfl) rfl #[.slice (if cx = bs.length then Ax else Option.map (fun x => x.add bs.length) Ax) (lx - bs.length) (cx - bs.length)] (by rfl) rfl rfl (by (try simp only [List.map_toArray, List.map_cons, List.map_nil]); first | done | rfl) ?_
          refine (sum_n (lx - bs.length) (cx - bs.length) _ (List.replicate (lx - bs.length) cb) _ HIE.out (Kd.C_below HCR.out hHeld2) (by omega) (by omega)).mono ?_
          rintro e w' ⟨rfl, hB⟩
          refine ⟨_, rfl, ?_⟩
          refine hK.out _ _ (below_then hHeld2 hHeld2.size hB) (fun hHeld3 => ?_)
          clear hK K
          refine norm_ (a' := ?_) ?_ ?_
          rotate_left
          · show Act.put _ (some 41) _ = _
            simp only [Act.put, List.setIfInBounds_toArray, List.set_cons_zero, List.set_cons_succ, i64_w, i32_w]
            rfl
          refine one_ (i := 18) (N := some 46) #[true, true, true, true, true, true, true, true, true, true, true, true, true, true, true, true, true, true, true, false, false, false] rfl rfl (by kernel_rfl) (by decide) (fun K hK => ?_)
          refine goes_ Try.func10 (by kernel_rfl) rfl #[.slice (if cx = bs.length then Ax else Option.map (fun x => x.add bs.length) Ax) (lx - bs.length) (cx - bs.length)] (by rfl) rfl rfl (by (try simp only [List.map_toArray, List.map_cons, List.map_nil]); first | done | rfl) ?_
          refine (sum_ref_n (lx - bs.length) (cx - bs.length) _ (List.replicate (lx - bs.length) cb) _ HIE.out (Kd.C_below HCR.out hHeld3) (by omega) (by omega)).mono ?_
          rintro e w' ⟨rfl, hB⟩
          refine ⟨_, rfl, ?_⟩
          refine hK.out _ _ (below_then hHeld3 hHeld3.size hB) (fun hHeld4 => ?_)
          clear hK K
          refine norm_ (a' := ?_) ?_ ?_
          rotate_left
          · show Act.put _ (some 46) _ = _
            simp only [Act.put, List.setIfInBounds_toArray, List.set_cons_zero, List.set_cons_succ, i64_w, i32_w]
            rfl
          refine pure_ (i := 19) (N := some 47) (v := ?_) (a' := ?_) #[true, true, true, true, true, true, true, true, true, true, true, true, true, true, true, true, true, true, true, true, false, false] rfl rfl (by kernel_rfl) (fun _ _ _ h => h) (Or.inl ⟨by rfl, ?_⟩) ?_ ?_
          rotate_left
          · intro w'
            go_simp; rw [eq_sums _ _ (sum_len _) (sum_len _), decide_eq_true rfl]; simp only [Result.andThen]
            first | done | with_reducible rfl
          rotate_left
          · simp only [Act.put, List.setIfInBounds_toArray, List.set_cons_zero, List.set_cons_succ, i64_w, i32_w]
            rfl
          refine pure_ (i := 20) (N := some 48) (v := ?_) (a' := ?_) #[true, true, true, true, true, true, true, true, true, true, true, true, true, true, true, true, true, true, true, true, true, false] rfl rfl (by kernel_rfl) (fun _ _ _ h => h) (Or.inl ⟨by rfl, ?_⟩) ?_ ?_
          rotate_left
          · intro w'
            go_simp
            first | done | with_reducible rfl
          rotate_left
          · simp only [Act.put, List.setIfInBounds_toArray, List.set_cons_zero, List.set_cons_succ, i64_w, i32_w]
            rfl
          refine tail_list 21 (t := [21]) (fuel := 0) rfl rfl rfl (by kernel_rfl) (by decide) ?_
          go_wp2_with fail
          all_goals go_ret
          all_goals exact ⟨rfl, below_then HB1.out HB1.out.size (below_then HB.out HB.out.size hHeld4)⟩
end Go.Proofs.Ytbnkpfflfiehjaa
