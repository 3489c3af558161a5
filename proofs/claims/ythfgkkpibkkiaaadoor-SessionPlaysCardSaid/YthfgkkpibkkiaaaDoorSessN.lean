/- The reference's end: Tick. -/
import Derived.Test.YthfgkkpibkkiaaaDoorSessE
import Derived.Test.YthfgkkpibkkiaaaDoorSessM
set_option linter.unusedVariables false
set_option linter.unusedSimpArgs false
namespace Go.Proofs.YthfgkkpibkkiaaaDoor
open Go.RowKit Go.Proofs.YthfgkkpibkkiaaaDoorW.PrintWords Go.Proofs.YthfgkkpibkkiaaaDoorW.PrintLast Go.Proofs.YthfgkkpibkkiaaaDoor.PSessionPlays

theorem windowOf_length (e : E) : (windowOf e).length = min 4 (e.sent.length - e.there) := by
  unfold windowOf
  rw [List.length_take, List.length_drop]
theorem windowOf_at (e : E) (i : Nat) (h1 : e.there ≤ i) (h2 : i < e.there + 4) (h3 : i < e.sent.length) : (windowOf e)[i - e.there]? = some (e.sent[i]'h3) := by
  unfold windowOf
  rw [List.getElem?_take, if_pos (by omega), List.getElem?_drop, show e.there + (i - e.there) = i by omega, List.getElem?_eq_getElem h3]
theorem tk_less {th i : Nat} (h : i < th + 4) {v : Value} (hv : v = .int .i64 ((i + 1 : Nat) : Int)) : th + 4 - (intOf v).toNat < th + 4 - (intOf (.int .i64 (i : Int))).toNat := by
  subst hv
  simp [intOf]
  omega
theorem wrap_succ {i : Nat} (h : i ≤ 100000000) : wrap64 ((i : Int) + 1) = ((i + 1 : Nat) : Int) := by unfold wrap64; omega
set_option maxRecDepth 100000 in
set_option maxHeartbeats 8000000 in
theorem rtick_any (w : World) (base g : Nat) (S : Nat → Prop) (e : E) (h : EndAt 47 w base g S e) (hq : e.came.length ≤ 1000000) (hq2 : e.sent.length ≤ 1000000) (hth : e.there ≤ 1000000) (hsz : ∀ l ∈ e.sent, l.length ≤ 140737488351232) :
    Calls Tryd.prog 23 #[.pointer (some ⟨g, 0, none⟩)] w fun r w' => ∃ v, r = .returned v ∧ k24.R 24 w' w.heap.size (fun _ => True) v (tickE e) ∧ Below w.heap.size w w' := by
  obtain ⟨vs, vc, Ss, Sc, h1, h2, h3, h4, h5⟩ := h.row
  obtain ⟨As, cs, rfl, hcs, hCs⟩ := Kd.R_reads h2
  obtain ⟨Ac, cc, rfl, _, _⟩ := Kd.R_reads h3
  have hlt := h.glt
  obtain ⟨fr, hfr⟩ : ∃ fr, fr = (windowOf e).mapIdx (frameOf e) := ⟨_, rfl⟩
  have hfl : fr.length = min 4 (e.sent.length - e.there) := by rw [hfr, List.length_mapIdx, windowOf_length]
  have hfi : ∀ i, e.there ≤ i → i < e.there + 4 → (hi : i < e.sent.length) → fr[i - e.there]? = some ⟨e.ep, (e.came.length : Int), true, (i : Int), e.sent[i]'hi⟩ := by
    intro i a b c
    rw [hfr, List.getElem?_mapIdx, windowOf_at e i a b c]
    simp only [Option.map_some, frameOf]
    rw [show e.there + (i - e.there) = i by omega]
  have HTK := Lib.hid (show tickE e = if e.there < e.sent.length then fr else [⟨e.ep, (e.came.length : Int), false, 0, []⟩] from by unfold tickE; rw [hfr])
  obtain ⟨m, hm⟩ : ∃ m, m = e.sent.length := ⟨_, rfl⟩
  obtain ⟨mc, hmc⟩ : ∃ m, m = e.came.length := ⟨_, rfl⟩
  obtain ⟨th, hth'⟩ : ∃ t, t = e.there := ⟨_, rfl⟩
  rw [← hm] at h1 hq2 hcs hfl
  rw [← hmc] at h1 hq
  rw [← hth'] at hth hfl
  have HM := Lib.hid hm
  have HMC := Lib.hid hmc
  have HTH := Lib.hid hth'
  have HCs := Lib.hid hCs
  have HSZ := Lib.hid hsz
  have HFI := Lib.hid hfi
  have HFL := Lib.hid hfl
  have HS := Lib.hid (EnS.mk (Below.refl _ _) h1 hlt)
  have s0 : w.cell? ⟨g, 2, none⟩ = some (.int .i64 (th : Int)) := by rw [hth']; exact (cells4 h1).2.2.1
  have hw4 : wrap64 ((th : Int) + 4) = (th : Int) + 4 := by unfold wrap64; omega
  clear h h1 h2 h3 h4 h5 hCs hm hmc hth' hsz hfr hfi hfl
  go_enter Tryd.func23, Tryd.ntmps23
  go_wp2_with fail
  go_loopw [3, 4] (fun vo vi wr => ∃ i : Nat, th ≤ i ∧ i - th ≤ fr.length ∧ vi = .int .i64 (i : Int) ∧ k24.R 24 wr w.heap.size (fun _ => True) vo (fr.take (i - th)) ∧ EnS w 47 g e (.slice As m cs) (.slice Ac mc cc) wr) (fun _ vi _ => th + 4 - (intOf vi).toNat)
  case atStart => exact ⟨th, Nat.le_refl _, by omega, rfl, by rw [Nat.sub_self]; exact Kd.R_nil _ _ _ _ _, HS.out⟩
  case round =>
    obtain ⟨i, hi1, hi2, rfl, hR, hSr⟩ := hrel
    have HR := Lib.hid hR
    have HSr := Lib.hid hSr
    obtain ⟨_, c0, c1, c2, c3⟩ := hSr
    rw [← HTH.out] at c2
    have hlr : g < wr.heap.size := blk_lt HSr.out.1.2.1
    clear s0 hR
    by_cases hin : i < m ∧ i < th + 4
    · skip
      --DEV{
      obtain ⟨hm1, hm2⟩ := hin
      have hin1 : (i : Int) < (m : Int) := by omega
      have hin2 : (i : Int) < (th : Int) + 4 := by omega
      have hi0 : (0 : Int) ≤ (i : Int) := by omega
      have hkl : i - th < fr.length := by have := HFL.out; omega
      have HNX := Lib.hid (show th ≤ i + 1 ∧ i + 1 - th ≤ fr.length ∧ i < th + 4 from ⟨by omega, by omega, hm2⟩)
      have hCr := Kd.C_below HCs.out (HSr.out.1.1)
      rw [← HM.out] at hCr
      obtain ⟨ad, Ai, ci, rfl, hcell, hle, hCi⟩ := at_L1 hCr (i : Int) hi0 hin1
      rw [Int.toNat_natCast] at hcell
      have him : i < e.sent.length := by rw [← HM.out]; exact hm1
      obtain ⟨l, hl⟩ : ∃ l, l = e.sent[i]'him := ⟨_, rfl⟩
      rw [show rd_L1 e.sent (i : Int) = l from by unfold rd_L1; rw [Int.toNat_natCast, List.getD_eq_getElem?_getD, List.getElem?_eq_getElem him, hl]; rfl] at hcell hle hCi
      have hll : l.length ≤ 140737488351232 := HSZ.out l (by rw [hl]; exact List.getElem_mem him)
      have hfx : fr[i - th]? = some ⟨e.ep, (mc : Int), true, (i : Int), l⟩ := by
        have := HFI.out i (by rw [← HTH.out]; omega) (by rw [← HTH.out]; omega) him
        rw [HTH.out, HMC.out, hl]
        exact this
      have HCI := Lib.hid hCi
      have HL := Lib.hid hfx
      have hlc : (ad.add i).block < wr.heap.size := World.block_lt_of_cell? wr _ hcell
      clear hCi hl hfx hCr
      go_upto_region 5 with (fail)
      refine start_ (S := fun w' => (EnS w 47 g e (.slice (some ad) m cs) (.slice Ac mc cc) w' ∧ Below wr.heap.size wr w') ∧ w'.cell? ⟨g, 0, none⟩ = some (.int .i64 e.ep) ∧ w'.cell? ⟨g, 1, none⟩ = some (.slice (some ad) m cs) ∧ w'.cell? ⟨g, 3, none⟩ = some (.slice Ac mc cc) ∧ w'.cell? (ad.add i) = some (.slice Ai l.length ci)) (ds := [22, 23]) (n := 24) #[false, false, false, false, false, false, false, false, false, false, false, false, false, false, false, false, false, false, false, false, false, false, false, false] rfl rfl rfl ?hS0 (fun hHeld => ?hrun)
      case hS0 => exact ⟨⟨HSr.out.drew, (Below.refl _ _).drew⟩, c0, c1, c3, hcell⟩
      case hrun =>
        refine pure_ (i := 0) (N := some 27) (v := ?_) (a' := ?_) #[true, false, false, false, false, false, false, false, false, false, false, false, false, false, false, false, false, false, false, false, false, false, false, false] rfl rfl (by kernel_rfl) (fun _ _ _ h => h) (Or.inl ⟨by rfl, ?_⟩) ?_ ?_
        rotate_left
        · intro w'
          go_simp
          first | done | with_reducible rfl
        rotate_left
        · simp only [Act.put, List.setIfInBounds_toArray, List.set_cons_zero, List.set_cons_succ, i64_w, i32_w]
          rfl
        refine pure_ (i := 1) (N := some 28) (v := ?_) (a' := ?_) #[true, true, false, false, false, false, false, false, false, false, false, false, false, false, false, false, false, false, false, false, false, false, false, false] rfl rfl (by kernel_rfl) (fun _ _ _ h => h) (Or.inl ⟨by rfl, ?_⟩) ?_ ?_
        rotate_left
        · intro w'
          go_simp
          first | done | with_reducible rfl
        rotate_left
        · simp only [Act.put, List.setIfInBounds_toArray, List.set_cons_zero, List.set_cons_succ, i64_w, i32_w]
          rfl
        refine pure_ (i := 2) (N := some 29) (v := ?_) (a' := ?_) #[true, true, true, false, false, false, false, false, false, false, false, false, false, false, false, false, false, false, false, false, false, false, false, false] rfl rfl (by kernel_rfl) (fun _ _ _ h => h) (Or.inl ⟨by rfl, ?_⟩) ?_ ?_
        rotate_left
        · intro w'
          go_simp
          first | done | with_reducible rfl
        rotate_left
        · simp only [Act.put, List.setIfInBounds_toArray, List.set_cons_zero, List.set_cons_succ, i64_w, i32_w]
          rfl
        refine pure_ (i := 3) (N := some 30) (v := ?_) (a' := ?_) #[true, true, true, true, false, false, false, false, false, false, false, false, false, false, false, false, false, false, false, false, false, false, false, false] rfl rfl (by kernel_rfl) (fun _ _ _ h => h) (Or.inl ⟨by rfl, ?_⟩) ?_ ?_
        rotate_left
        · intro w'
          go_simp
          first | done | with_reducible rfl
        rotate_left
        · simp only [Act.put, List.setIfInBounds_toArray, List.set_cons_zero, List.set_cons_succ, i64_w, i32_w]
          rfl
        refine take_ (i := 4) (N := some 31) (v := ?_) (a' := ?_) #[true, true, true, true, true, false, false, false, false, false, false, false, false, false, false, false, false, false, false, false, false, false, false, false] rfl rfl (by kernel_rfl) (fun _ _ _ h => h) (Or.inl ⟨by rfl, ?_⟩) hHeld ?_ ?_
        rotate_left
        · rintro w' ⟨_, s0, s1, s3, s4⟩
          go_simp
          first | done | with_reducible rfl
        rotate_left
        · simp only [Act.put, List.setIfInBounds_toArray, List.set_cons_zero, List.set_cons_succ, i64_w, i32_w]
          rfl
        refine pure_ (i := 5) (N := some 32) (v := ?_) (a' := ?_) #[true, true, true, true, true, true, false, false, false, false, false, false, false, false, false, false, false, false, false, false, false, false, false, false] rfl rfl (by kernel_rfl) (fun _ _ _ h => h) (Or.inl ⟨by rfl, ?_⟩) ?_ ?_
        rotate_left
        · intro w'
          go_simp
          first | done | with_reducible rfl
        rotate_left
        · simp only [Act.put, List.setIfInBounds_toArray, List.set_cons_zero, List.set_cons_succ, i64_w, i32_w]
          rfl
        refine pure_ (i := 6) (N := some 33) (v := ?_) (a' := ?_) #[true, true, true, true, true, true, true, false, false, false, false, false, false, false, false, false, false, false, false, false, false, false, false, false] rfl rfl (by kernel_rfl) (fun _ _ _ h => h) (Or.inl ⟨by rfl, ?_⟩) ?_ ?_
        rotate_left
        · intro w'
          go_simp
          first | done | with_reducible rfl
        rotate_left
        · simp only [Act.put, List.setIfInBounds_toArray, List.set_cons_zero, List.set_cons_succ, i64_w, i32_w]
          rfl
        refine pure_ (i := 7) (N := some 34) (v := ?_) (a' := ?_) #[true, true, true, true, true, true, true, true, false, false, false, false, false, false, false, false, false, false, false, false, false, false, false, false] rfl rfl (by kernel_rfl) (fun _ _ _ h => h) (Or.inl ⟨by rfl, ?_⟩) ?_ ?_
        rotate_left
        · intro w'
          go_simp
          first | done | with_reducible rfl
        rotate_left
        · simp only [Act.put, List.setIfInBounds_toArray, List.set_cons_zero, List.set_cons_succ, i64_w, i32_w]
          rfl
        refine take_ (i := 8) (N := some 35) (v := ?_) (a' := ?_) #[true, true, true, true, true, true, true, true, true, false, false, false, false, false, false, false, false, false, false, false, false, false, false, false] rfl rfl (by kernel_rfl) (fun _ _ _ h => h) (Or.inl ⟨by rfl, ?_⟩) hHeld ?_ ?_
        rotate_left
        · rintro w' ⟨_, s0, s1, s3, s4⟩
          go_simp
          first | done | with_reducible rfl
        rotate_left
        · simp only [Act.put, List.setIfInBounds_toArray, List.set_cons_zero, List.set_cons_succ, i64_w, i32_w]
          rfl
        refine pure_ (i := 9) (N := some 36) (v := ?_) (a' := ?_) #[true, true, true, true, true, true, true, true, true, true, false, false, false, false, false, false, false, false, false, false, false, false, false, false] rfl rfl (by kernel_rfl) (fun _ _ _ h => h) (Or.inl ⟨by rfl, ?_⟩) ?_ ?_
        rotate_left
        · intro w'
          go_simp
          first | done | with_reducible rfl
        rotate_left
        · simp only [Act.put, List.setIfInBounds_toArray, List.set_cons_zero, List.set_cons_succ, i64_w, i32_w]
          rfl
        refine pure_ (i := 10) (N := some 37) (v := ?_) (a' := ?_) #[true, true, true, true, true, true, true, true, true, true, true, false, false, false, false, false, false, false, false, false, false, false, false, false] rfl rfl (by kernel_rfl) (fun _ _ _ h => h) (Or.inl ⟨by rfl, ?_⟩) ?_ ?_
        rotate_left
        · intro w'
          go_simp
          first | done | with_reducible rfl
        rotate_left
        · simp only [Act.put, List.setIfInBounds_toArray, List.set_cons_zero, List.set_cons_succ, i64_w, i32_w]
          rfl
        refine pure_ (i := 12) (N := some 39) (v := ?_) (a' := ?_) #[true, true, true, true, true, true, true, true, true, true, true, false, true, false, false, false, false, false, false, false, false, false, false, false] rfl rfl (by kernel_rfl) (fun _ _ _ h => h) (Or.inl ⟨by rfl, ?_⟩) ?_ ?_
        rotate_left
        · intro w'
          go_simp
          first | done | with_reducible rfl
        rotate_left
        · simp only [Act.put, List.setIfInBounds_toArray, List.set_cons_zero, List.set_cons_succ, i64_w, i32_w]
          rfl
        refine pure_ (i := 13) (N := some 40) (v := ?_) (a' := ?_) #[true, true, true, true, true, true, true, true, true, true, true, false, true, true, false, false, false, false, false, false, false, false, false, false] rfl rfl (by kernel_rfl) (fun _ _ _ h => h) (Or.inl ⟨by rfl, ?_⟩) ?_ ?_
        rotate_left
        · intro w'
          go_simp
          first | done | with_reducible rfl
        rotate_left
        · simp only [Act.put, List.setIfInBounds_toArray, List.set_cons_zero, List.set_cons_succ, i64_w, i32_w]
          rfl
        refine pure_ (i := 14) (N := some 41) (v := ?_) (a' := ?_) #[true, true, true, true, true, true, true, true, true, true, true, false, true, true, true, false, false, false, false, false, false, false, false, false] rfl rfl (by kernel_rfl) (fun _ _ _ h => h) (Or.inl ⟨by rfl, ?_⟩) ?_ ?_
        rotate_left
        · intro w'
          go_simp
          first | done | with_reducible rfl
        rotate_left
        · simp only [Act.put, List.setIfInBounds_toArray, List.set_cons_zero, List.set_cons_succ, i64_w, i32_w]
          rfl
        refine take_ (i := 15) (N := some 42) (v := ?_) (a' := ?_) #[true, true, true, true, true, true, true, true, true, true, true, false, true, true, true, true, false, false, false, false, false, false, false, false] rfl rfl (by kernel_rfl) (fun _ _ _ h => h) (Or.inl ⟨by rfl, ?_⟩) hHeld ?_ ?_
        rotate_left
        · rintro w' ⟨_, s0, s1, s3, s4⟩
          go_simp
          first | done | with_reducible rfl
        rotate_left
        · simp only [Act.put, List.setIfInBounds_toArray, List.set_cons_zero, List.set_cons_succ, i64_w, i32_w]
          rfl
        refine pure_ (i := 16) (N := some 43) (v := ?_) (a' := ?_) #[true, true, true, true, true, true, true, true, true, true, true, false, true, true, true, true, true, false, false, false, false, false, false, false] rfl rfl (by kernel_rfl) (fun _ _ _ h => h) (Or.inl ⟨by rfl, ?_⟩) ?_ ?_
        rotate_left
        · intro w'
          go_simp
          first | done | with_reducible rfl
        rotate_left
        · simp only [Act.put, List.setIfInBounds_toArray, List.set_cons_zero, List.set_cons_succ, i64_w, i32_w]
          rfl
        refine pure_ (i := 17) (N := some 44) (v := ?_) (a' := ?_) #[true, true, true, true, true, true, true, true, true, true, true, false, true, true, true, true, true, true, false, false, false, false, false, false] rfl rfl (by kernel_rfl) (fun _ _ _ h => h) (Or.inl ⟨by rfl, ?_⟩) ?_ ?_
        rotate_left
        · intro w'
          go_simp
          first | done | with_reducible rfl
        rotate_left
        · simp only [Act.put, List.setIfInBounds_toArray, List.set_cons_zero, List.set_cons_succ, i64_w, i32_w]
          rfl
        refine take_ (i := 18) (N := some 45) (v := ?_) (a' := ?_) #[true, true, true, true, true, true, true, true, true, true, true, false, true, true, true, true, true, true, true, false, false, false, false, false] rfl rfl (by kernel_rfl) (fun _ _ _ h => h) (Or.inl ⟨by rfl, ?_⟩) hHeld ?_ ?_
        rotate_left
        · rintro w' ⟨_, s0, s1, s3, s4⟩
          go_simp
          first | done | with_reducible rfl
        rotate_left
        · simp only [Act.put, List.setIfInBounds_toArray, List.set_cons_zero, List.set_cons_succ, i64_w, i32_w]
          rfl
        refine one_ (i := 11) (N := some 38) #[true, true, true, true, true, true, true, true, true, true, true, true, true, true, true, true, true, true, true, false, false, false, false, false] rfl rfl (by kernel_rfl) (by decide) (fun K hK => ?_)
        refine value_ (by rfl) rfl (by go_simp; first | rfl | exact ⟨rfl, rfl⟩) ?_
        have hb1 : Below wr.heap.size wr (wr.alloc (.cells #[] 5)).drew := ((Below.refl wr.heap.size wr).alloc (Nat.le_refl _) _).drew
        have hs1 := HSr.out.step (hb1.mono HSr.out.1.1.size)
        refine hK.out _ _ ⟨⟨hs1, hb1⟩, hs1.2.1, hs1.2.2.1, hs1.2.2.2.2, (hb1.cell hlc).trans hcell⟩ (fun hHeld1 => ?_)
        clear hK K
        refine norm_ (a' := ?_) ?_ ?_
        rotate_left
        · show Act.put _ (some 38) _ = _
          simp only [Act.put, List.setIfInBounds_toArray, List.set_cons_zero, List.set_cons_succ, i64_w, i32_w]
          rfl
        refine one_ (i := 19) (N := some 46) #[true, true, true, true, true, true, true, true, true, true, true, true, true, true, true, true, true, true, true, true, false, false, false, false] rfl rfl (by kernel_rfl) (by decide) (fun K hK => ?_)
        refine Kd.R_append_rows_step (w0 := wr) (Kd.int .u8) (Rr := fun x cs => cs = [.int .u8 x]) wr.heap.size (by rfl) _ _ 22 5 (.int .u8 0) 1 (by rfl) Tryd.underlying22 infoU8 rfl (by decide) (by decide) (.slice (some ⟨wr.heap.size, 0, none⟩) 0 0) [] l Ai l.length ci (fun _ => True) (fun _ => False) (by rfl) (by rfl) ?ho ?hr (fun x cs h => h) (fun _ h => h.elim) (fun _ _ => trivial) ?hb ?hbase ?hl ?hk
        case ho => exact empty_u8 (w := wr.drew) (Nat.le_refl _)
        case hr => exact Kd.C_below HCI.out ((Below.refl wr.heap.size wr).drew.alloc (by simp) _)
        case hb => exact (Below.refl wr.heap.size wr).drew.alloc (by simp) _
        case hbase => simp
        case hl => simp; omega
        intro v9 w9 hR9 hB9 _ _
        rw [List.nil_append] at hR9
        have HR9 := Lib.hid hR9
        have HB9 := Lib.hid hB9
        have HS9 := Lib.hid (HSr.out.step (hB9.mono HSr.out.1.1.size))
        obtain ⟨A9, c9, rfl⟩ := Kd.R_slice hR9
        have hcell9 := (hB9.cell hlc).trans hcell
        clear hR9 hB9 hHeld
        refine hK.out _ _ ⟨⟨HS9.out, HB9.out⟩, HS9.out.2.1, HS9.out.2.2.1, HS9.out.2.2.2.2, hcell9⟩ (fun hHeld2 => ?_)
        clear hK K
        refine norm_ (a' := ?_) ?_ ?_
        rotate_left
        · show Act.put _ (some 46) _ = _
          simp only [Act.put, List.setIfInBounds_toArray, List.set_cons_zero, List.set_cons_succ, i64_w, i32_w]
          rfl
        refine pure_ (i := 20) (N := some 47) (v := ?_) (a' := ?_) #[true, true, true, true, true, true, true, true, true, true, true, true, true, true, true, true, true, true, true, true, true, false, false, false] rfl rfl (by kernel_rfl) (fun _ _ _ h => h) (Or.inl ⟨by rfl, ?_⟩) ?_ ?_
        rotate_left
        · intro w'
          go_simp
          first | done | with_reducible rfl
        rotate_left
        · simp only [Act.put, List.setIfInBounds_toArray, List.set_cons_zero, List.set_cons_succ, i64_w, i32_w]
          rfl
        refine one_ (i := 21) (N := some 48) #[true, true, true, true, true, true, true, true, true, true, true, true, true, true, true, true, true, true, true, true, true, true, false, false] rfl rfl (by kernel_rfl) (by decide) (fun K hK => ?_)
        refine value_ (by rfl) rfl (by go_simp; first | rfl | exact ⟨rfl, rfl⟩) ?_
        have hb1 : Below wr.heap.size wr (w9.alloc (.cells #[.int .i64 e.ep, .int .i64 (mc : Int), .bool true, .int .i64 (i : Int), .slice A9 l.length c9] 24)) := HB9.out.alloc HB9.out.size _
        have hs1 := HSr.out.step (hb1.mono HSr.out.1.1.size)
        refine hK.out _ _ ⟨⟨hs1, hb1⟩, hs1.2.1, hs1.2.2.1, hs1.2.2.2.2, (hb1.cell hlc).trans hcell⟩ (fun hHeld3 => ?_)
        clear hK K
        refine norm_ (a' := ?_) ?_ ?_
        rotate_left
        · show Act.put _ (some 48) _ = _
          simp only [Act.put, List.setIfInBounds_toArray, List.set_cons_zero, List.set_cons_succ, i64_w, i32_w]
          rfl
        refine tail_list 22 (t := [22, 23]) (fuel := 0) rfl rfl rfl (by kernel_rfl) (by decide) ?_
        have hRb := Kd.R_bound HR.out
        refine Kd.R_append k24 (w0 := w) (W := w9) w.heap.size rfl _ _ 43 24 (.agg #[.int .i64 0, .int .i64 0, .bool false, .int .i64 0, .slice none 0 0]) 56 rfl Tryd.underlying43 info24 rfl (by decide) (by decide) u3 (fr.take (i - th)) ⟨e.ep, (mc : Int), true, (i : Int), l⟩ [.int .i64 e.ep, .int .i64 (mc : Int), .bool true, .int .i64 (i : Int), .slice A9 l.length c9] (fun _ => True) (fun b => wr.heap.size ≤ b) rfl rfl ?hp ?hokp ?hfresh ?HO ?HBB ?hb2 ?hl2 ?hk2
        case hp => exact k24_mkM _ _ _ _ (Kd.R_lower (Kd.R_mono (Kd.R_bound HR9.out) (fun b hb => hb.2.1)) HSr.out.1.1.size)
        case hokp =>
          intro b hb
          have hb' : wr.heap.size ≤ b := hb
          refine ⟨trivial, fun e' => ?_⟩
          have := (own_ok hRb b e'.symm).2.2.1
          omega
        case hfresh => exact fun b hb => trivial
        case HO => exact Kd.R_below HR.out HB9.out
        case HBB => exact HSr.out.1.1.trans (HB9.out.mono HSr.out.1.1.size)
        case hb2 => have := HB9.out.size; have := HSr.out.1.1.size; omega
        case hl2 => rw [List.length_take]; omega
        case hk2 =>
          intro v1 w8 hR1 hB8 hg8 _
          have htk : fr.take (i + 1 - th) = fr.take (i - th) ++ [⟨e.ep, (mc : Int), true, (i : Int), l⟩] := by
            rw [show i + 1 - th = (i - th) + 1 by omega, List.take_add_one, HL.out]
            rfl
          rw [← htk] at hR1
          have HR8 := Lib.hid hR1
          have HS8 := Lib.hid (HS.out.step hB8)
          have hw5 := wrap_succ (i := i) (by omega)
          clear hR1 hB8 hg8 htk c0 c1 c2 c3 hcell hHeld1 hHeld2 hHeld3 hRb
          go_wp2_with fail
          exact ⟨⟨i + 1, HNX.out.1, HNX.out.2.1, by go_num, HR8.out, HS8.out⟩, tk_less HNX.out.2.2 (by go_num)⟩
        --DEV}
    · have hdone : i - th = fr.length := by have := HFL.out; omega
      obtain ⟨AO, cO, rfl⟩ := Kd.R_slice HR.out
      have hlen : (fr.take (i - th)).length = fr.length := by rw [List.length_take]; omega
      rw [hlen]
      have HLEN := Lib.hid hlen
      have hcase : (i : Int) < (m : Int) → ¬ (i : Int) < (th : Int) + 4 := by omega
      have HMT := Lib.hid (show fr.length = 0 ↔ ¬ e.there < e.sent.length from by have := HFL.out; have := HM.out; have := HTH.out; omega)
      have HR0 := Lib.hid (show k24.R 24 wr w.heap.size (fun _ => True) (.slice AO fr.length cO) fr from by
        have h := HR.out
        rwa [List.take_of_length_le (show fr.length ≤ i - th by omega)] at h)
      have HNX := Lib.hid (And.intro hi1 hi2)
      clear hi1 hi2 hin
      obtain ⟨kf, hkf⟩ : ∃ k, k = fr.length := ⟨_, rfl⟩
      rw [← hkf] at HR0 HMT ⊢
      clear hdone HR hlen
      have HKF := Lib.hid hkf
      clear hkf
      cases kf with
      | zero =>
        have hz0 : (((0 : Nat) : Int) == 0) = true := rfl
        by_cases him : (i : Int) < (m : Int)
        · have him2 := hcase him
          clear hcase
          go_upto_region 7 with (fail)
          refine start_ (S := EnS w 47 g e (.slice As m cs) (.slice Ac mc cc)) (ds := [12, 13]) (n := 14) #[false, false, false, false, false, false, false, false, false, false, false, false, false, false] rfl rfl rfl ?hS0 (fun hHeld => ?hrun)
          case hS0 => exact HSr.out.drew
          case hrun =>
            refine pure_ (i := 0) (N := some 53) (v := ?_) (a' := ?_) #[true, false, false, false, false, false, false, false, false, false, false, false, false, false] rfl rfl (by kernel_rfl) (fun _ _ _ h => h) (Or.inl ⟨by rfl, ?_⟩) ?_ ?_
            rotate_left
            · intro w'
              go_simp
              first | done | with_reducible rfl
            rotate_left
            · simp only [Act.put, List.setIfInBounds_toArray, List.set_cons_zero, List.set_cons_succ, i64_w, i32_w]
              rfl
            refine pure_ (i := 1) (N := some 54) (v := ?_) (a' := ?_) #[true, true, false, false, false, false, false, false, false, false, false, false, false, false] rfl rfl (by kernel_rfl) (fun _ _ _ h => h) (Or.inl ⟨by rfl, ?_⟩) ?_ ?_
            rotate_left
            · intro w'
              go_simp
              first | done | with_reducible rfl
            rotate_left
            · simp only [Act.put, List.setIfInBounds_toArray, List.set_cons_zero, List.set_cons_succ, i64_w, i32_w]
              rfl
            refine pure_ (i := 2) (N := some 55) (v := ?_) (a' := ?_) #[true, true, true, false, false, false, false, false, false, false, false, false, false, false] rfl rfl (by kernel_rfl) (fun _ _ _ h => h) (Or.inl ⟨by rfl, ?_⟩) ?_ ?_
            rotate_left
            · intro w'
              go_simp
              first | done | with_reducible rfl
            rotate_left
            · simp only [Act.put, List.setIfInBounds_toArray, List.set_cons_zero, List.set_cons_succ, i64_w, i32_w]
              rfl
            refine pure_ (i := 3) (N := some 56) (v := ?_) (a' := ?_) #[true, true, true, true, false, false, false, false, false, false, false, false, false, false] rfl rfl (by kernel_rfl) (fun _ _ _ h => h) (Or.inl ⟨by rfl, ?_⟩) ?_ ?_
            rotate_left
            · intro w'
              go_simp
              first | done | with_reducible rfl
            rotate_left
            · simp only [Act.put, List.setIfInBounds_toArray, List.set_cons_zero, List.set_cons_succ, i64_w, i32_w]
              rfl
            refine take_ (i := 4) (N := some 57) (v := ?_) (a' := ?_) #[true, true, true, true, true, false, false, false, false, false, false, false, false, false] rfl rfl (by kernel_rfl) (fun _ _ _ h => h) (Or.inl ⟨by rfl, ?_⟩) hHeld ?_ ?_
            rotate_left
            · rintro w' ⟨_, s0, s1, s2, s3⟩
              go_simp
              first | done | with_reducible rfl
            rotate_left
            · simp only [Act.put, List.setIfInBounds_toArray, List.set_cons_zero, List.set_cons_succ, i64_w, i32_w]
              rfl
            refine pure_ (i := 5) (N := some 58) (v := ?_) (a' := ?_) #[true, true, true, true, true, true, false, false, false, false, false, false, false, false] rfl rfl (by kernel_rfl) (fun _ _ _ h => h) (Or.inl ⟨by rfl, ?_⟩) ?_ ?_
            rotate_left
            · intro w'
              go_simp
              first | done | with_reducible rfl
            rotate_left
            · simp only [Act.put, List.setIfInBounds_toArray, List.set_cons_zero, List.set_cons_succ, i64_w, i32_w]
              rfl
            refine pure_ (i := 6) (N := some 59) (v := ?_) (a' := ?_) #[true, true, true, true, true, true, true, false, false, false, false, false, false, false] rfl rfl (by kernel_rfl) (fun _ _ _ h => h) (Or.inl ⟨by rfl, ?_⟩) ?_ ?_
            rotate_left
            · intro w'
              go_simp
              first | done | with_reducible rfl
            rotate_left
            · simp only [Act.put, List.setIfInBounds_toArray, List.set_cons_zero, List.set_cons_succ, i64_w, i32_w]
              rfl
            refine pure_ (i := 7) (N := some 60) (v := ?_) (a' := ?_) #[true, true, true, true, true, true, true, true, false, false, false, false, false, false] rfl rfl (by kernel_rfl) (fun _ _ _ h => h) (Or.inl ⟨by rfl, ?_⟩) ?_ ?_
            rotate_left
            · intro w'
              go_simp
              first | done | with_reducible rfl
            rotate_left
            · simp only [Act.put, List.setIfInBounds_toArray, List.set_cons_zero, List.set_cons_succ, i64_w, i32_w]
              rfl
            refine take_ (i := 8) (N := some 61) (v := ?_) (a' := ?_) #[true, true, true, true, true, true, true, true, true, false, false, false, false, false] rfl rfl (by kernel_rfl) (fun _ _ _ h => h) (Or.inl ⟨by rfl, ?_⟩) hHeld ?_ ?_
            rotate_left
            · rintro w' ⟨_, s0, s1, s2, s3⟩
              go_simp
              first | done | with_reducible rfl
            rotate_left
            · simp only [Act.put, List.setIfInBounds_toArray, List.set_cons_zero, List.set_cons_succ, i64_w, i32_w]
              rfl
            refine pure_ (i := 9) (N := some 62) (v := ?_) (a' := ?_) #[true, true, true, true, true, true, true, true, true, true, false, false, false, false] rfl rfl (by kernel_rfl) (fun _ _ _ h => h) (Or.inl ⟨by rfl, ?_⟩) ?_ ?_
            rotate_left
            · intro w'
              go_simp
              first | done | with_reducible rfl
            rotate_left
            · simp only [Act.put, List.setIfInBounds_toArray, List.set_cons_zero, List.set_cons_succ, i64_w, i32_w]
              rfl
            refine pure_ (i := 10) (N := some 63) (v := ?_) (a' := ?_) #[true, true, true, true, true, true, true, true, true, true, true, false, false, false] rfl rfl (by kernel_rfl) (fun _ _ _ h => h) (Or.inl ⟨by rfl, ?_⟩) ?_ ?_
            rotate_left
            · intro w'
              go_simp
              first | done | with_reducible rfl
            rotate_left
            · simp only [Act.put, List.setIfInBounds_toArray, List.set_cons_zero, List.set_cons_succ, i64_w, i32_w]
              rfl
            refine one_ (i := 11) (N := some 64) #[true, true, true, true, true, true, true, true, true, true, true, true, false, false] rfl rfl (by kernel_rfl) (by decide) (fun K hK => ?_)
            refine value_ (by rfl) rfl (by go_simp; first | rfl | exact ⟨rfl, rfl⟩) ?_
            refine hK.out _ _ (HSr.out.step (((Below.refl wr.heap.size wr).alloc (Nat.le_refl _) _).drew.mono HSr.out.1.1.size)) (fun hHeld1 => ?_)
            clear hK K
            refine norm_ (a' := ?_) ?_ ?_
            rotate_left
            · show Act.put _ (some 64) _ = _
              simp only [Act.put, List.setIfInBounds_toArray, List.set_cons_zero, List.set_cons_succ, i64_w, i32_w]
              rfl
            refine tail_list 12 (t := [12, 13]) (fuel := 0) rfl rfl rfl (by kernel_rfl) (by decide) ?_
            have hRd := Kd.R_below HR0.out ((Below.refl wr.heap.size wr).drew)
            refine Kd.R_append k24 (w0 := w) (W := wr.drew) w.heap.size rfl _ _ 43 24 (.agg #[.int .i64 0, .int .i64 0, .bool false, .int .i64 0, .slice none 0 0]) 56 rfl Tryd.underlying43 info24 rfl (by decide) (by decide) (.slice AO 0 cO) fr ⟨e.ep, (mc : Int), false, 0, []⟩ [.int .i64 e.ep, .int .i64 (mc : Int), .bool false, .int .i64 0, .slice none 0 0] (fun _ => True) (fun _ => False) rfl rfl ?hp ?hokp ?hfresh ?HO ?HBB ?hb2 ?hl2 ?hk2
            case hp => exact k24_mkM _ _ _ _ (Kd.R_nil _ _ _ _ _)
            case hokp => exact fun b hb => hb.elim
            case hfresh => exact fun b hb => trivial
            case HO => exact hRd
            case HBB => exact HSr.out.1.1.drew
            case hb2 => exact HSr.out.1.1.size
            case hl2 => rw [← HKF.out]; omega
            case hk2 =>
              intro v1 w8 hR1 hB8 hg8 _
              have HR8 := Lib.hid hR1
              have HB8 := Lib.hid hB8
              clear hR1 hB8 hg8 hRd hHeld hHeld1 c0 c1 c2 c3
              go_wp2_with fail
              go_ret
              refine ⟨_, rfl, ?_, HB8.out⟩
              have hf : fr = [] := List.eq_nil_of_length_eq_zero HKF.out.symm
              have h := HR8.out
              rw [hf, List.nil_append] at h
              rw [HTK.out, if_neg (HMT.out.1 (by first | rfl | trivial)), ← HMC.out]
              exact h
        · clear hcase
          go_upto_region 7 with (fail)
          refine start_ (S := EnS w 47 g e (.slice As m cs) (.slice Ac mc cc)) (ds := [12, 13]) (n := 14) #[false, false, false, false, false, false, false, false, false, false, false, false, false, false] rfl rfl rfl ?hS0 (fun hHeld => ?hrun)
          case hS0 => exact HSr.out.drew
          case hrun =>
            refine pure_ (i := 0) (N := some 53) (v := ?_) (a' := ?_) #[true, false, false, false, false, false, false, false, false, false, false, false, false, false] rfl rfl (by kernel_rfl) (fun _ _ _ h => h) (Or.inl ⟨by rfl, ?_⟩) ?_ ?_
            rotate_left
            · intro w'
              go_simp
              first | done | with_reducible rfl
            rotate_left
            · simp only [Act.put, List.setIfInBounds_toArray, List.set_cons_zero, List.set_cons_succ, i64_w, i32_w]
              rfl
            refine pure_ (i := 1) (N := some 54) (v := ?_) (a' := ?_) #[true, true, false, false, false, false, false, false, false, false, false, false, false, false] rfl rfl (by kernel_rfl) (fun _ _ _ h => h) (Or.inl ⟨by rfl, ?_⟩) ?_ ?_
            rotate_left
            · intro w'
              go_simp
              first | done | with_reducible rfl
            rotate_left
            · simp only [Act.put, List.setIfInBounds_toArray, List.set_cons_zero, List.set_cons_succ, i64_w, i32_w]
              rfl
            refine pure_ (i := 2) (N := some 55) (v := ?_) (a' := ?_) #[true, true, true, false, false, false, false, false, false, false, false, false, false, false] rfl rfl (by kernel_rfl) (fun _ _ _ h => h) (Or.inl ⟨by rfl, ?_⟩) ?_ ?_
            rotate_left
            · intro w'
              go_simp
              first | done | with_reducible rfl
            rotate_left
            · simp only [Act.put, List.setIfInBounds_toArray, List.set_cons_zero, List.set_cons_succ, i64_w, i32_w]
              rfl
            refine pure_ (i := 3) (N := some 56) (v := ?_) (a' := ?_) #[true, true, true, true, false, false, false, false, false, false, false, false, false, false] rfl rfl (by kernel_rfl) (fun _ _ _ h => h) (Or.inl ⟨by rfl, ?_⟩) ?_ ?_
            rotate_left
            · intro w'
              go_simp
              first | done | with_reducible rfl
            rotate_left
            · simp only [Act.put, List.setIfInBounds_toArray, List.set_cons_zero, List.set_cons_succ, i64_w, i32_w]
              rfl
            refine take_ (i := 4) (N := some 57) (v := ?_) (a' := ?_) #[true, true, true, true, true, false, false, false, false, false, false, false, false, false] rfl rfl (by kernel_rfl) (fun _ _ _ h => h) (Or.inl ⟨by rfl, ?_⟩) hHeld ?_ ?_
            rotate_left
            · rintro w' ⟨_, s0, s1, s2, s3⟩
              go_simp
              first | done | with_reducible rfl
            rotate_left
            · simp only [Act.put, List.setIfInBounds_toArray, List.set_cons_zero, List.set_cons_succ, i64_w, i32_w]
              rfl
            refine pure_ (i := 5) (N := some 58) (v := ?_) (a' := ?_) #[true, true, true, true, true, true, false, false, false, false, false, false, false, false] rfl rfl (by kernel_rfl) (fun _ _ _ h => h) (Or.inl ⟨by rfl, ?_⟩) ?_ ?_
            rotate_left
            · intro w'
              go_simp
              first | done | with_reducible rfl
            rotate_left
            · simp only [Act.put, List.setIfInBounds_toArray, List.set_cons_zero, List.set_cons_succ, i64_w, i32_w]
              rfl
            refine pure_ (i := 6) (N := some 59) (v := ?_) (a' := ?_) #[true, true, true, true, true, true, true, false, false, false, false, false, false, false] rfl rfl (by kernel_rfl) (fun _ _ _ h => h) (Or.inl ⟨by rfl, ?_⟩) ?_ ?_
            rotate_left
            · intro w'
              go_simp
              first | done | with_reducible rfl
            rotate_left
            · simp only [Act.put, List.setIfInBounds_toArray, List.set_cons_zero, List.set_cons_succ, i64_w, i32_w]
              rfl
            refine pure_ (i := 7) (N := some 60) (v := ?_) (a' := ?_) #[true, true, true, true, true, true, true, true, false, false, false, false, false, false] rfl rfl (by kernel_rfl) (fun _ _ _ h => h) (Or.inl ⟨by rfl, ?_⟩) ?_ ?_
            rotate_left
            · intro w'
              go_simp
              first | done | with_reducible rfl
            rotate_left
            · simp only [Act.put, List.setIfInBounds_toArray, List.set_cons_zero, List.set_cons_succ, i64_w, i32_w]
              rfl
            refine take_ (i := 8) (N := some 61) (v := ?_) (a' := ?_) #[true, true, true, true, true, true, true, true, true, false, false, false, false, false] rfl rfl (by kernel_rfl) (fun _ _ _ h => h) (Or.inl ⟨by rfl, ?_⟩) hHeld ?_ ?_
            rotate_left
            · rintro w' ⟨_, s0, s1, s2, s3⟩
              go_simp
              first | done | with_reducible rfl
            rotate_left
            · simp only [Act.put, List.setIfInBounds_toArray, List.set_cons_zero, List.set_cons_succ, i64_w, i32_w]
              rfl
            refine pure_ (i := 9) (N := some 62) (v := ?_) (a' := ?_) #[true, true, true, true, true, true, true, true, true, true, false, false, false, false] rfl rfl (by kernel_rfl) (fun _ _ _ h => h) (Or.inl ⟨by rfl, ?_⟩) ?_ ?_
            rotate_left
            · intro w'
              go_simp
              first | done | with_reducible rfl
            rotate_left
            · simp only [Act.put, List.setIfInBounds_toArray, List.set_cons_zero, List.set_cons_succ, i64_w, i32_w]
              rfl
            refine pure_ (i := 10) (N := some 63) (v := ?_) (a' := ?_) #[true, true, true, true, true, true, true, true, true, true, true, false, false, false] rfl rfl (by kernel_rfl) (fun _ _ _ h => h) (Or.inl ⟨by rfl, ?_⟩) ?_ ?_
            rotate_left
            · intro w'
              go_simp
              first | done | with_reducible rfl
            rotate_left
            · simp only [Act.put, List.setIfInBounds_toArray, List.set_cons_zero, List.set_cons_succ, i64_w, i32_w]
              rfl
            refine one_ (i := 11) (N := some 64) #[true, true, true, true, true, true, true, true, true, true, true, true, false, false] rfl rfl (by kernel_rfl) (by decide) (fun K hK => ?_)
            refine value_ (by rfl) rfl (by go_simp; first | rfl | exact ⟨rfl, rfl⟩) ?_
            refine hK.out _ _ (HSr.out.step (((Below.refl wr.heap.size wr).alloc (Nat.le_refl _) _).drew.mono HSr.out.1.1.size)) (fun hHeld1 => ?_)
            clear hK K
            refine norm_ (a' := ?_) ?_ ?_
            rotate_left
            · show Act.put _ (some 64) _ = _
              simp only [Act.put, List.setIfInBounds_toArray, List.set_cons_zero, List.set_cons_succ, i64_w, i32_w]
              rfl
            refine tail_list 12 (t := [12, 13]) (fuel := 0) rfl rfl rfl (by kernel_rfl) (by decide) ?_
            have hRd := Kd.R_below HR0.out ((Below.refl wr.heap.size wr).drew)
            refine Kd.R_append k24 (w0 := w) (W := wr.drew) w.heap.size rfl _ _ 43 24 (.agg #[.int .i64 0, .int .i64 0, .bool false, .int .i64 0, .slice none 0 0]) 56 rfl Tryd.underlying43 info24 rfl (by decide) (by decide) (.slice AO 0 cO) fr ⟨e.ep, (mc : Int), false, 0, []⟩ [.int .i64 e.ep, .int .i64 (mc : Int), .bool false, .int .i64 0, .slice none 0 0] (fun _ => True) (fun _ => False) rfl rfl ?hp ?hokp ?hfresh ?HO ?HBB ?hb2 ?hl2 ?hk2
            case hp => exact k24_mkM _ _ _ _ (Kd.R_nil _ _ _ _ _)
            case hokp => exact fun b hb => hb.elim
            case hfresh => exact fun b hb => trivial
            case HO => exact hRd
            case HBB => exact HSr.out.1.1.drew
            case hb2 => exact HSr.out.1.1.size
            case hl2 => rw [← HKF.out]; omega
            case hk2 =>
              intro v1 w8 hR1 hB8 hg8 _
              have HR8 := Lib.hid hR1
              have HB8 := Lib.hid hB8
              clear hR1 hB8 hg8 hRd hHeld hHeld1 c0 c1 c2 c3
              go_wp2_with fail
              go_ret
              refine ⟨_, rfl, ?_, HB8.out⟩
              have hf : fr = [] := List.eq_nil_of_length_eq_zero HKF.out.symm
              have h := HR8.out
              rw [hf, List.nil_append] at h
              rw [HTK.out, if_neg (HMT.out.1 (by first | rfl | trivial)), ← HMC.out]
              exact h
      | succ kk =>
        have hz0 : (((kk + 1 : Nat) : Int) == 0) = false := by rw [beq_eq_false_iff_ne]; omega
        have hz1 : (((kk : Nat) : Int) + 1 == 0) = false := by rw [beq_eq_false_iff_ne]; omega
        by_cases him : (i : Int) < (m : Int)
        · have him2 := hcase him
          clear hcase
          go_wp2_with fail
          go_ret
          refine ⟨_, rfl, ?_, HSr.out.1.1⟩
          have hmt : e.there < e.sent.length := Decidable.of_not_not (fun hn => by have := HMT.out.2 hn; omega)
          rw [HTK.out, if_pos hmt]
          exact HR0.out
        · clear hcase
          go_wp2_with fail
          go_ret
          refine ⟨_, rfl, ?_, HSr.out.1.1⟩
          have hmt : e.there < e.sent.length := Decidable.of_not_not (fun hn => by have := HMT.out.2 hn; omega)
          rw [HTK.out, if_pos hmt]
          exact HR0.out
end Go.Proofs.YthfgkkpibkkiaaaDoor
