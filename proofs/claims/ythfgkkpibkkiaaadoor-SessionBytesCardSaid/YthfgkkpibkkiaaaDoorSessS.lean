/- The reference's Put. -/
import Derived.Test.YthfgkkpibkkiaaaDoorSessM
import Derived.Test.YthfgkkpibkkiaaaDoorSessI
import Derived.Lib.ConvBytes
import Derived.Lib.AppendIntMem
set_option linter.unusedVariables false
set_option linter.unusedSimpArgs false
namespace Go.Proofs.YthfgkkpibkkiaaaDoor
open Go.RowKit Go.Proofs.YthfgkkpibkkiaaaDoorW.PrintWords Go.Proofs.YthfgkkpibkkiaaaDoorW.PrintLast Go.Proofs.YthfgkkpibkkiaaaDoor.PSessionPlays

/-- Cells stored in a row whose mark lies behind all that are stored. -/
theorem store_marked (P : Program) (g o : Nat) (t : TypeId) (lo hi : Nat) (vs : List Value) : ∀ (i : Nat) (cur : Array Value) (w : World), w.heap[g]? = some (.cells cur t (lo, hi)) → o + i + vs.length ≤ lo → o + i + vs.length ≤ cur.size → (∀ v ∈ vs, v.oneCell' = true) →
    (storeCells ⟨g, o, none⟩ vs i).run P w = .ok () (w.setRow g (cur.toList.take (o + i) ++ vs ++ cur.toList.drop (o + i + vs.length)).toArray) := by
  induction vs with
  | nil =>
    intro i cur w hg _ _ _
    simp only [storeCells, List.append_nil, List.length_nil, Nat.add_zero, List.take_append_drop, Array.toArray_toList]
    rw [setRow_self w g cur t (lo, hi) hg]
    rfl
  | cons v vs ih =>
    intro i cur w hg hlo hsz h1
    rw [List.length_cons] at hlo hsz
    have hlt : o + i < cur.size := by omega
    have ha : (⟨g, o, none⟩ : Addr).add i = ⟨g, o + i, none⟩ := by rw [Addr.add_lit]
    have hc : w.cell? ⟨g, o + i, none⟩ = some cur[o + i] := by simp [World.cell?, hg, hlt]
    have hf : w.frozen? ⟨g, o + i, none⟩ = false := by
      simp only [World.frozen?, hg, Bool.and_eq_false_iff, decide_eq_false_iff_not]
      exact .inl (by omega)
    have hs : (store ((⟨g, o, none⟩ : Addr).add i) v).run P w = .ok () (w.setRow g (cur.setIfInBounds (o + i) v)) := by
      rw [ha, run_store P w _ v _ (h1 v (by simp)), hc]
      simp [hf, setCell_eq_setRow w g (o + i) cur t (lo, hi) v hg]
    have hr := ih (i + 1) (cur.setIfInBounds (o + i) v) (w.setRow g (cur.setIfInBounds (o + i) v)) (setRow_heap w g cur _ t _ hg) (by omega) (by rw [Array.size_setIfInBounds]; omega) (fun x hx => h1 x (by simp [hx]))
    simp only [storeCells, Sem.run_bind, hs, Result.andThen_ok, hr, setRow_setRow]
    congr 3
    have e := list_seg_step cur.toList (o + i) v vs (by rw [Array.length_toList]; omega)
    simpa [Array.toList_setIfInBounds, Nat.add_assoc] using e
theorem C_of_block (w1 : World) (g : Nat) (C : Array Value) (t : TypeId) (fz : Nat × Nat) (hg : w1.heap[g]? = some (.cells C t fz)) (zs : List Int) (n : Nat) (hn : zs.length = n) (hl : n ≤ 1000000) (hp : C.toList.take n = zs.map (Value.int .u8)) : Kd.C (Kd.int .u8) w1 (some ⟨g, 0, none⟩) n zs := by
  refine Kd.C_of_reads (d := (0 : Int)) ⟨hn, by omega, fun _ => ⟨_, rfl, fun j hj => ?_⟩⟩
  rw [show (⟨g, 0, none⟩ : Addr).add j = ⟨g, j, none⟩ by cases j <;> simp [Addr.add]]
  have h1 : (C.toList.take n)[j]? = C[j]? := by rw [List.getElem?_take, if_pos hj, Array.getElem?_toList]
  have h2 : w1.cell? ⟨g, j, none⟩ = C[j]? := by simp [World.cell?, hg]
  rw [h2, ← h1, hp, List.getElem?_map, List.getElem?_eq_getElem (show j < zs.length by omega), List.getD_eq_getElem?_getD, List.getElem?_eq_getElem (show j < zs.length by omega)]
  rfl
/-- append onto a string's own bytes, just made. -/
theorem append_conv (w : World) (s : ByteArray) (A : Option Addr) (m c : Nat) (ys : List Int) (hC : Kd.C (Kd.int .u8) w A m ys) (hlen : s.size + m ≤ 1000000) :
    ∃ A1 c1 w1, (Builtin.append_ #[22, 22] 22 #[.slice (some ⟨w.heap.size, 0, none⟩) s.size (grownCap w s.size 0 5), .slice A m c]).run Tryd.prog (Lib.bytesWorld w 5 s) = .ok (.slice (some A1) (s.size + m) c1) w1 ∧ s.size + m ≤ c1 ∧ Kd.C (Kd.int .u8) w1 (some A1) (s.size + m) (nmI s.data.toList ++ ys) ∧ Below w.heap.size w w1 := by
  obtain ⟨W, hW⟩ : ∃ W, W = Lib.bytesWorld w 5 s := ⟨_, rfl⟩
  obtain ⟨C, hCc⟩ : ∃ C, C = Lib.bytesCells w 5 s := ⟨_, rfl⟩
  obtain ⟨cap, hcap⟩ : ∃ k, k = grownCap w s.size 0 5 := ⟨_, rfl⟩
  have hBW : Below w.heap.size w W := by rw [hW]; exact Lib.bytesWorld_below _ _ _
  have hWs : W.heap.size = w.heap.size + 1 := by rw [hW]; exact Lib.bytesWorld_size _ _ _
  have hge : s.size ≤ cap := by rw [hcap]; exact grownCap_ge w s.size 0 _
  have hg : W.heap[w.heap.size]? = some (.cells C 5 (C.size, C.size + 1)) := by rw [hW, hCc]; exact Lib.bytesWorld_at_new w _ s
  have hsd : s.data.toList.length = s.size := by simp
  have hCs : C.size = cap := by
    rw [hCc, hcap]
    unfold Lib.bytesCells
    rw [Array.size_append, Array.size_map, Array.size_replicate]
    rw [← hcap]
    show s.size + (cap - s.size) = cap
    omega
  have hCt : C.toList.take s.size = (nmI s.data.toList).map (Value.int .u8) := by
    rw [hCc]
    unfold Lib.bytesCells nmI
    rw [Array.toList_append, Array.toList_map, List.take_left' (by simp)]
    simp
  rw [← hW, ← hcap]
  obtain ⟨i0, hi, hzz⟩ := Option.map_eq_some_iff.1 infoU8
  simp only [Prod.mk.injEq] at hzz
  obtain ⟨hz0, hz1, hz2⟩ := hzz
  have ht := Tryd.underlying22
  have hm : ys.length = m := hC.1
  clear hW hCc hcap
  rcases A with _ | ad
  · have h0 : m = 0 := by
      rcases Nat.eq_zero_or_pos m with h0 | h0
      · exact h0
      · obtain ⟨ad, h, _⟩ := hC.2.2 h0
        cases h
    subst h0
    obtain rfl : ys = [] := List.eq_nil_of_length_eq_zero hm
    refine ⟨⟨w.heap.size, 0, none⟩, cap, W, ?_, by omega, ?_, hBW⟩
    · simp [Builtin.append_, run_underlying ht, sizeOf, typeInfo, hi, Builtin.lenOf, Builtin.firstCells, hge, storeCells]
    · rw [List.append_nil, Nat.add_zero]
      exact C_of_block W _ C _ _ hg _ _ (by simp [nmI]) (by omega) hCt
  · have hnl : (ys.map (Value.int .u8)).length = m * i0.size := by rw [List.length_map, hm, hz1, Nat.mul_one]
    have hnews : ∀ j u, (ys.map (Value.int .u8))[j]? = some u → W.cell? (ad.add j) = some u := by
      intro j u hu
      have hj : j < m := by have := (List.getElem?_eq_some_iff.1 hu).1; rw [List.length_map] at this; omega
      obtain ⟨ad', cc, e1, _, hK, hc0⟩ := Kd.C_get (Kd.C_below hC hBW) (0 : Int) (j : Int) (by omega) (by omega)
      obtain rfl : ad = ad' := Option.some.inj e1
      have hK' : cc = [.int .u8 (ys.getD (Int.toNat (j : Int)) 0)] := hK
      subst hK'
      have h0 : W.cell? (ad.add (Int.toNat (j : Int) * 1 + 0)) = some (.int .u8 (ys.getD (Int.toNat (j : Int)) 0)) := hc0 0 _ rfl
      rw [Int.toNat_natCast, Nat.mul_one, Nat.add_zero] at h0
      rw [h0, ← hu, List.getElem?_map, List.getD_eq_getElem?_getD, List.getElem?_eq_getElem (show j < ys.length by omega)]
      rfl
    have hone : ∀ u ∈ ys.map (Value.int .u8), u.oneCell' = true := by
      intro u hu
      obtain ⟨y, _, rfl⟩ := List.mem_map.1 hu
      rfl
    have hcat : (C.toList.take s.size ++ ys.map (Value.int .u8)) = (nmI s.data.toList ++ ys).map (Value.int .u8) := by rw [List.map_append, hCt]
    have hcl : (nmI s.data.toList ++ ys).length = s.size + m := by rw [List.length_append, hm]; simp [nmI]
    by_cases hroom : s.size + m ≤ cap
    · have hf := run_firstCells_some (P := Tryd.prog) W i0.size m ad m c _ hnl hnews
      have hst := store_marked Tryd.prog w.heap.size (s.size * i0.size) 5 C.size (C.size + 1) (ys.map (Value.int .u8)) 0 C W hg (by rw [List.length_map, hz1, hCs]; omega) (by rw [List.length_map, hz1, hCs]; omega) hone
      simp only [Nat.add_zero] at hst
      refine ⟨⟨w.heap.size, 0, none⟩, cap, W.setRow w.heap.size (C.toList.take (s.size * i0.size) ++ ys.map (Value.int .u8) ++ C.toList.drop (s.size * i0.size + (ys.map (Value.int .u8)).length)).toArray, ?_, hroom, ?_, ?_⟩
      · simp [Builtin.append_, run_underlying ht, sizeOf, typeInfo, hi, Builtin.lenOf, hroom, hf, Addr.add_lit, hst]
      · refine C_of_block _ _ _ _ _ (setRow_heap W w.heap.size C _ 5 _ hg) _ _ hcl hlen ?_
        rw [hz1, Nat.mul_one]
        show List.take (s.size + m) (C.toList.take s.size ++ ys.map (Value.int .u8) ++ _) = _
        rw [hcat, List.take_left' (by rw [List.length_map, hcl])]
      · refine Below.grown (row := some w.heap.size) hBW ⟨rfl, rfl, rfl, by simp, fun k _ hk => setRow_other W w.heap.size k _ (fun e => hk (by rw [e]))⟩ (by omega) (fun k hk => by have := Option.some.inj hk; omega)
    · have holds : ∀ j u, (C.toList.take s.size)[j]? = some u → W.cell? ((⟨w.heap.size, 0, none⟩ : Addr).add j) = some u := by
        intro j u hu
        rw [show (⟨w.heap.size, 0, none⟩ : Addr).add j = ⟨w.heap.size, j, none⟩ by cases j <;> simp [Addr.add]]
        have hj : j < s.size := by have := (List.getElem?_eq_some_iff.1 hu).1; rw [List.length_take] at this; omega
        rw [List.getElem?_take, if_pos hj, Array.getElem?_toList] at hu
        rw [← hu]
        simp [World.cell?, hg]
      have hr := run_append_grow (P := Tryd.prog) W 22 22 5 i0 (.int .u8 0) ht hi hz0 ⟨w.heap.size, 0, none⟩ s.size cap (C.toList.take s.size) (by rw [List.length_take, Array.length_toList, hCs, hz1]; omega) holds ad m c _ hnl hnews (by omega) (by omega) (growslice_fits (by omega) (by rw [hz2]; omega))
      refine ⟨_, _, _, hr, grownCap_ge W (s.size + m) cap _, ?_, ((hBW.trans ((Below.refl W.heap.size W).drew.mono (by omega))).alloc (by simp; omega) _)⟩
      refine C_of_block _ _ _ _ _ (heap_alloc_new W.drew _) _ _ hcl hlen ?_
      rw [Array.toList_append, Array.toList_append, List.toList_toArray, List.toList_toArray, hcat, List.take_left' (by rw [List.length_map, hcl])]
theorem fmt_any (n : Int) (hn : i64ok n) (w : World) (hG : Ground w) : Calls Tryd.prog 44 #[.int .i64 n, .int .i64 10] w fun r w' => r = .returned (.string ⟨(Lib.itoa n).toArray⟩) ∧ Below w.heap.size w w' := by
  have H := Lib.hid (Tryd.internal_strconv_FormatInt_10 n hn.1 hn.2 w hG.tab)
  clear hn hG
  go_enter Tryd.func44, Tryd.ntmps44
  go_wp2_with fail
  refine H.out.mono ?_
  rintro r w1 ⟨rfl, k, os, hw⟩
  have HB := Lib.hid (show Below w.heap.size w w1 from by rw [hw]; exact Lib.below_grow _ w (Nat.le_refl _) k os)
  clear hw
  go_wp2_with fail
  go_ret
  exact ⟨rfl, HB.out⟩
theorem itoa_any (n : Int) (hn : i64ok n) (w : World) (hG : Ground w) : Calls Tryd.prog 45 #[.int .i64 n] w fun r w' => r = .returned (.string ⟨(Lib.itoa n).toArray⟩) ∧ Below w.heap.size w w' := by
  refine (Tryd.strconv_Itoa n hn.1 hn.2 w hG.tab).mono ?_
  rintro r w1 ⟨rfl, k, os, rfl⟩
  exact ⟨rfl, Lib.below_grow _ w (Nat.le_refl _) k os⟩
end Go.Proofs.YthfgkkpibkkiaaaDoor
