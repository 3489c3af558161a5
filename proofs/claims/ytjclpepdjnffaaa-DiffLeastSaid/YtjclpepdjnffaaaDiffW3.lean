/- The walk of reckon. -/
import Derived.Test.YtjclpepdjnffaaaDiffD
set_option linter.unusedVariables false
set_option linter.unusedSimpArgs false
namespace Go.Proofs.Ytjclpepdjnffaaa
open Go.RowKit Go.Proofs.YtjclpepdjnffaaaW.PrintWords Go.Proofs.YtjclpepdjnffaaaW.PrintLast

attribute [local go_sem] run_store_float
theorem info52 : (Try.prog.info? 52).map (fun i => (i.zero, i.size, i.bytes)) = some (some (.slice none 0 0), 1, 24) := by kernel_rfl
theorem make_floats (m : Nat) (hm : m ≤ 10000) (W : World) : (Instr.makeSlice 52 (.int .i64 (m : Int)) (.int .i64 (m : Int))).run Try.prog W = .ok (.slice (some ⟨W.heap.size, 0, none⟩) m m) (W.alloc (.cells (List.replicate m (flt 0)).toArray 46)) := by
  have h := run_make_row' 52 46 (.float .f64 0) 8 Try.underlying52 (by kernel_rfl) rfl .i64 .i64 m (by omega) (by omega) W
  have e : madeCells #[Value.float .f64 0] m = (List.replicate m (flt 0)).toArray := by
    apply Array.ext'
    rw [toList_madeCells_one, flt, fw_zero]
  rw [← e]
  exact h
theorem keepS {wr w' w'' : World} {p : Addr} {u : Value} (h : Below wr.heap.size wr w' ∧ w'.cell? p = some u) (hB : Below w'.heap.size w' w'') : Below wr.heap.size wr w'' ∧ w''.cell? p = some u :=
  ⟨below_then h.1 h.1.size hB, pw_cell_below hB h.2⟩
theorem at_x (w : World) (pb base : Nat) (A : Option Addr) (na ca : Nat) (B : Option Addr) (nb cb : Nat) (v : Value) (T : Nat → Nat → Nat) (blk : Nat → Nat) (x y : Int) (i k : Nat) (hx : x = (i : Int)) (hy : y = (k : Int)) (h : PrAt w pb base A na ca B nb cb v T blk) :
    Calls Try.prog 24 #[.pointer (some ⟨pb, 0, none⟩), .int .i64 x, .int .i64 y] w fun e w' => e = .returned (.float .f64 (fv (prc na nb T i k))) ∧ Below w.heap.size w w' := by
  subst hx
  subst hy
  exact at_any w pb base A na ca B nb cb v T blk i k h
theorem alike_x (na nb : Nat) (w : World) (pb : Nat) (A : Option Addr) (ca : Nat) (B : Option Addr) (cb : Nat) (v : Value) (a b : List ByteArray) (hna : a.length = na) (hnb : b.length = nb) (x y : Int) (i k : Nat) (hx : x = (i : Int)) (hy : y = (k : Int)) (h : w.heap[pb]? = some (.cells #[.slice A na ca, .slice B nb cb, v] 51 (0, 0)))
    (ha : Kd.string.C w A na a) (hb : Kd.string.C w B nb b) :
    Calls Try.prog 23 #[.pointer (some ⟨pb, 0, none⟩), .int .i64 x, .int .i64 y] w fun e w' => e = .returned (.bool (alikeB a b i k)) ∧ Below w.heap.size w w' := by
  subst hx
  subst hy
  subst hna
  subst hnb
  exact alike_any w pb A ca B cb v a b i k h ha hb
theorem PrAt.put {w : World} {pb base : Nat} {A : Option Addr} {na ca : Nat} {B : Option Addr} {nb cb : Nat} {v : Value} {T : Nat → Nat → Nat} {blk : Nat → Nat} (h : PrAt w pb base A na ca B nb cb v T blk) {i k : Nat} (hi : i < na + 1) (hk : k < nb + 1) (x : Nat) :
    PrAt (w.setCell ⟨blk i, k, none⟩ (flt x)) pb base A na ca B nb cb v (fun a b => if a = i ∧ b = k then x else T a b) blk :=
  ⟨blk_far h.head (p := ⟨blk i, k, none⟩) (blk_ne h.head (h.tab.row i hi).2 (by decide)) _, h.tab.put (by decide) hi hk x⟩
theorem below_then' {B : Nat} {w w1 w2 : World} (h : Below B w w1) {b : Nat} (hB : b < w1.heap.size) (k : Below w1.heap.size w1 w2) (hb : B ≤ b := by first | exact Nat.le_refl _ | omega) : Below B w w2 := below_then h (by omega) k
set_option maxRecDepth 100000 in
set_option maxHeartbeats 4000000 in
theorem reckon_n (na nb : Nat) (w : World) (A : Option Addr) (ca : Nat) (B : Option Addr) (cb : Nat) (a b : List ByteArray) (hna : a.length = na) (hnb : b.length = nb) (ha : Kd.string.C w A na a) (hb : Kd.string.C w B nb b) (hn : na + nb ≤ 1200) :
    Calls Try.prog 21 #[.slice A na ca, .slice B nb cb] w fun e w' => ∃ pb v blk, e = .returned (.pointer (some ⟨pb, 0, none⟩)) ∧ PrAt w' pb w.heap.size A na ca B nb cb v (DD a b) blk ∧ w.heap.size ≤ pb ∧ Below w.heap.size w w' := by
  have HA := Lib.hid ha
  have HB := Lib.hid hb
  have HNA := Lib.hid hna
  have HNB := Lib.hid hnb
  clear ha hb hna hnb
  go_enter Try.func21, Try.ntmps21
  go_wp2_with fail
  have hB0 : Below w.heap.size w (w.alloc (.cells #[.slice A na ca, .slice B nb cb, .slice none 0 0] 51)) := (Below.refl _ _).alloc (Nat.le_refl _) _
  have hpb : (w.alloc (.cells #[.slice A na ca, .slice B nb cb, .slice none 0 0] 51)).heap[w.heap.size]? = some (.cells #[.slice A na ca, .slice B nb cb, .slice none 0 0] 51 (0, 0)) := heap_alloc_new _ _
  have HB0 := Lib.hid hB0
  have HPB := Lib.hid hpb
  clear hB0 hpb
  obtain ⟨pb, hpbe⟩ : ∃ pb, pb = w.heap.size := ⟨_, rfl⟩
  rw [← hpbe] at HPB HB0 ⊢
  have HPE := Lib.hid hpbe
  clear hpbe
  have hn1 : (nb : Int) + 1 ≤ 1201 := by omega
  have hn0 : (0 : Int) ≤ (nb : Int) + 1 := by omega
  have hnt : ((nb : Int) + 1).toNat = nb + 1 := by omega
  go_loopw [16] (fun v wr => ∃ j : Nat, j ≤ na + 1 ∧ v = .int .i64 j ∧ ∃ vr blk, wr.heap[pb]? = some (.cells #[.slice A na ca, .slice B nb cb, vr] 51 (0, 0)) ∧ TabAt flt 46 52 wr pb vr j (nb + 1) (fun _ _ => 0) blk ∧ Below pb w wr) (fun v _ => na + 1 - (intOf v).toNat)
  case atStart => exact ⟨0, by omega, rfl, _, fun _ => 0, HPB.out, TabAt.nil _ _ _ _ _ _ _ _, HB0.out⟩
  case round =>
    obtain ⟨j, hj, rfl, vr, blk, hp, ht, hB1⟩ := hrel
    clear HPB HB0
    have lp := blk_lt hp
    obtain ⟨_, _, c2⟩ := head_cells hp
    have HP := Lib.hid hp
    have HT := Lib.hid ht
    have HB1 := Lib.hid hB1
    clear hp ht hB1
    by_cases hjn : j < na + 1
    · have d1 : (j : Int) < (na : Int) + 1 := by omega
      have hmk : ∀ W : World, (Instr.makeSlice 52 (.int .i64 (wrap64 ((nb : Int) + 1))) (.int .i64 (wrap64 ((nb : Int) + 1)))).run Try.prog W = .ok (.slice (some ⟨W.heap.size, 0, none⟩) (nb + 1) (nb + 1)) (W.alloc (.cells (List.replicate (nb + 1) (flt 0)).toArray 46)) := by
        intro W
        rw [wrap_succ nb (by omega)]
        exact make_floats (nb + 1) (by omega) W
      go_upto_region 4 with (fail)
      have hS := And.intro (Below.refl wr.heap.size wr) c2
      clear c2
      refine start_ (S := fun w' => Below wr.heap.size wr w' ∧ w'.cell? ⟨pb, 2, none⟩ = some vr) (ds := [10, 11, 12, 13]) (n := 14) #[false, false, false, false, false, false, false, false, false, false, false, false, false, false] rfl rfl rfl ?hS0 (fun hHeld => ?hrun)
      case hS0 => exact keepS hS ((Below.refl _ _).drew)
      case hrun =>
        refine pure_ (i := 0) (N := some 18) (v := ?_) (a' := ?_) #[true, false, false, false, false, false, false, false, false, false, false, false, false, false] rfl rfl (by kernel_rfl) (fun _ _ _ h => h) (Or.inl ⟨by rfl, ?_⟩) ?_ ?_
        rotate_left
        · intro w'
          go_simp
          first | done | with_reducible rfl
        rotate_left
        · simp only [Act.put, List.setIfInBounds_toArray, List.set_cons_zero, List.set_cons_succ, i64_w, i32_w]
          rfl
        refine pure_ (i := 1) (N := some 19) (v := ?_) (a' := ?_) #[true, true, false, false, false, false, false, false, false, false, false, false, false, false] rfl rfl (by kernel_rfl) (fun _ _ _ h => h) (Or.inl ⟨by rfl, ?_⟩) ?_ ?_
        rotate_left
        · intro w'
          go_simp
          first | done | with_reducible rfl
        rotate_left
        · simp only [Act.put, List.setIfInBounds_toArray, List.set_cons_zero, List.set_cons_succ, i64_w, i32_w]
          rfl
        refine pure_ (i := 2) (N := some 20) (v := ?_) (a' := ?_) #[true, true, true, false, false, false, false, false, false, false, false, false, false, false] rfl rfl (by kernel_rfl) (fun _ _ _ h => h) (Or.inl ⟨by rfl, ?_⟩) ?_ ?_
        rotate_left
        · intro w'
          go_simp
          first | done | with_reducible rfl
        rotate_left
        · simp only [Act.put, List.setIfInBounds_toArray, List.set_cons_zero, List.set_cons_succ, i64_w, i32_w]
          rfl
        refine pure_ (i := 3) (N := some 21) (v := ?_) (a' := ?_) #[true, true, true, true, false, false, false, false, false, false, false, false, false, false] rfl rfl (by kernel_rfl) (fun _ _ _ h => h) (Or.inl ⟨by rfl, ?_⟩) ?_ ?_
        rotate_left
        · intro w'
          go_simp
          first | done | with_reducible rfl
        rotate_left
        · simp only [Act.put, List.setIfInBounds_toArray, List.set_cons_zero, List.set_cons_succ, i64_w, i32_w]
          rfl
        refine take_ (i := 4) (N := some 22) (v := ?_) (a' := ?_) #[true, true, true, true, true, false, false, false, false, false, false, false, false, false] rfl rfl (by kernel_rfl) (fun _ _ _ h => h) (Or.inl ⟨by rfl, ?_⟩) hHeld ?_ ?_
        rotate_left
        · rintro w' ⟨hb, s0⟩
          go_simp
          first | done | with_reducible rfl
        rotate_left
        · simp only [Act.put, List.setIfInBounds_toArray, List.set_cons_zero, List.set_cons_succ, i64_w, i32_w]
          rfl
        refine pure_ (i := 5) (N := some 23) (v := ?_) (a' := ?_) #[true, true, true, true, true, true, false, false, false, false, false, false, false, false] rfl rfl (by kernel_rfl) (fun _ _ _ h => h) (Or.inl ⟨by rfl, ?_⟩) ?_ ?_
        rotate_left
        · intro w'
          go_simp
          first | done | with_reducible rfl
        rotate_left
        · simp only [Act.put, List.setIfInBounds_toArray, List.set_cons_zero, List.set_cons_succ, i64_w, i32_w]
          rfl
        refine pure_ (i := 6) (N := some 24) (v := ?_) (a' := ?_) #[true, true, true, true, true, true, true, false, false, false, false, false, false, false] rfl rfl (by kernel_rfl) (fun _ _ _ h => h) (Or.inl ⟨by rfl, ?_⟩) ?_ ?_
        rotate_left
        · intro w'
          go_simp
          first | done | with_reducible rfl
        rotate_left
        · simp only [Act.put, List.setIfInBounds_toArray, List.set_cons_zero, List.set_cons_succ, i64_w, i32_w]
          rfl
        refine pure_ (i := 7) (N := some 25) (v := ?_) (a' := ?_) #[true, true, true, true, true, true, true, true, false, false, false, false, false, false] rfl rfl (by kernel_rfl) (fun _ _ _ h => h) (Or.inl ⟨by rfl, ?_⟩) ?_ ?_
        rotate_left
        · intro w'
          go_simp
          first | done | with_reducible rfl
        rotate_left
        · simp only [Act.put, List.setIfInBounds_toArray, List.set_cons_zero, List.set_cons_succ, i64_w, i32_w]
          rfl
        refine one_ (i := 8) (N := some 26) #[true, true, true, true, true, true, true, true, true, false, false, false, false, false] rfl rfl (by kernel_rfl) (by decide) (fun K hK => ?_)
        refine value_ (by rfl) rfl (by go_simp; first | rfl | exact ⟨rfl, rfl⟩) ?_
        refine hK.out _ _ (keepS hHeld (below_alloc (Below.refl _ _) _)) (fun hHeld1 => ?_)
        clear hK K
        refine norm_ (a' := ?_) ?_ ?_
        rotate_left
        · show Act.put _ (some 26) _ = _
          simp only [Act.put, List.setIfInBounds_toArray, List.set_cons_zero, List.set_cons_succ, i64_w, i32_w]
          rfl
        refine one_ (i := 9) (N := some 27) #[true, true, true, true, true, true, true, true, true, true, false, false, false, false] rfl rfl (by kernel_rfl) (by decide) (fun K hK => ?_)
        refine value_ (by rfl) rfl (by go_simp; first | rfl | exact ⟨rfl, rfl⟩) ?_
        refine hK.out _ _ (keepS hHeld1 (below_alloc (Below.refl _ _) _)) (fun hHeld2 => ?_)
        clear hK K
        refine norm_ (a' := ?_) ?_ ?_
        rotate_left
        · show Act.put _ (some 27) _ = _
          simp only [Act.put, List.setIfInBounds_toArray, List.set_cons_zero, List.set_cons_succ, i64_w, i32_w]
          rfl
        refine tail_list 10 (t := [10, 11, 12, 13]) (fuel := 0) rfl rfl rfl (by kernel_rfl) (by decide) ?_
        obtain ⟨W0, hW0⟩ : ∃ W0, W0 = (wr.alloc (.cells (Array.replicate (nb + 1) (flt 0)) 46)).drew := ⟨_, rfl⟩
        have hW1 : ((wr.alloc (.cells (Array.replicate (nb + 1) (flt 0)) 46)).alloc (.cells #[.slice (some ⟨wr.heap.size, 0, none⟩) (nb + 1) (nb + 1)] 52)).drew = W0.alloc (.cells #[.slice (some ⟨wr.heap.size, 0, none⟩) (nb + 1) (nb + 1)] 52) := by rw [hW0]; rfl
        rw [hW1]
        have HSZ := Lib.hid (show W0.heap.size = wr.heap.size + 1 by rw [hW0]; simp)
        have hBW : Below wr.heap.size wr W0 := by rw [hW0]; exact ((Below.refl wr.heap.size wr).alloc (Nat.le_refl _) _).drew
        have hnew : W0.heap[wr.heap.size]? = some (.cells (List.replicate (nb + 1) (flt 0)).toArray 46 (0, 0)) := by
          rw [hW0, List.toArray_replicate]
          exact heap_alloc_new wr (.cells (Array.replicate (nb + 1) (flt 0)) 46)
        have hT0 := HT.out.below hBW
        have hpw : pb ≤ wr.heap.size := Nat.le_of_lt lp
        have hblk : ∀ i, i < j → blk i < wr.heap.size := fun i hi => blk_lt (HT.out.row i hi).2
        have HT0 := Lib.hid hT0
        have HNEW := Lib.hid hnew
        have HBW := Lib.hid hBW
        have HBLK := Lib.hid hblk
        clear hW1 hW0 hBW hnew hT0 hblk hS hHeld hHeld1 hHeld2 HT
        show wpList _ _ _ (_ :: _) _ _
        refine (print_append_cells (w0 := wr) (W := W0) pb rfl _ _ 49 52 (.slice none 0 0) 1 24 rfl Try.underlying49 info52 rfl (by decide) (by decide) vr j ((List.range j).map fun i => .slice (some ⟨blk i, 0, none⟩) (nb + 1) (nb + 1)) [.slice (some ⟨wr.heap.size, 0, none⟩) (nb + 1) (nb + 1)] rfl (by rw [HSZ.out]; rfl) rfl ?hone ?HO ?HB ?hbase ?hl ?hk)
        case hone => intro u hu; rw [List.mem_singleton.1 hu]; rfl
        case HO => exact HT0.out.rows
        case HB => exact HBW.out.mono hpw
        case hbase => exact Nat.le_trans hpw HBW.out.size
        case hl => omega
        intro v1 w1 hrow1 hB2 hg1 hat1
        have hp0 : W0.heap[pb]? = some (.cells #[.slice A na ca, .slice B nb cb, vr] 51 (0, 0)) := (HBW.out.block pb lp).trans HP.out
        have hp1 : w1.heap[pb]? = some (.cells #[.slice A na ca, .slice B nb cb, vr] 51 (0, 0)) := (hg1.block pb (blk_lt hp0) (own_ne HT0.out.rows hp0 (by decide))).trans hp0
        have hT1 := HT0.out.snoc hrow1 hg1 (by decide) (fun _ => rfl) hpw HNEW.out (fun i hi => by have := HBLK.out i hi; omega)
        obtain ⟨g1, cap1, rfl, _, _, _, _⟩ := own_form hrow1 (by omega)
        obtain ⟨_, _, c2'⟩ := head_cells hp1
        have lp1 := blk_lt hp1
        have f2 := blk_frozen hp1 2
        have HP1 := Lib.hid hp1
        have HT1 := Lib.hid hT1
        have HB2 := Lib.hid hB2
        clear hrow1 hg1 hat1 hp0 hp1 hT1 hB2 HT0 HBW HNEW HBLK
        go_wp2_with fail
        refine ⟨⟨j + 1, by omega, by go_num, _, _, by simpa using blk_set HP1.out 2 (.slice (some ⟨g1, 0, none⟩) (j + 1) cap1), HT1.out.grownT (gb_setCell (gb_refl _ _) (p := ⟨pb, 2, none⟩) (Or.inl rfl) _) HP1.out (by decide) (by decide), ?_⟩, by simp [intOf]; omega⟩
        exact (HB1.out.trans HB2.out).setCell (p := ⟨pb, 2, none⟩) (Nat.le_refl _) _
    · obtain rfl : j = na + 1 := by omega
      clear c2 lp hj
      go_wp2_with fail
      obtain ⟨g, cap, rfl, _, _, _, _⟩ := own_form HT.out.rows (by omega)
      go_loopw [6] (fun v w2 => ∃ (m : Nat) (T : Nat → Nat → Nat), m ≤ na + 1 ∧ v = .int .i64 ((m : Int) - 1) ∧ (∀ i k, m ≤ i → i ≤ na → k ≤ nb → T i k = DD a b i k) ∧ PrAt w2 pb pb A na ca B nb cb (.slice (some ⟨g, 0, none⟩) (na + 1) cap) T blk ∧ Below pb w w2) (fun v _ => (intOf v + 1).toNat)
      case atStart => exact ⟨na + 1, _, Nat.le_refl _, by congr 1 <;> omega, fun i k h1 h2 _ => by omega, ⟨HP.out, HT.out⟩, HB1.out⟩
      case round =>
        obtain ⟨m, T, hm, rfl, hT, hpr, hB2⟩ := hrel
        clear HP HT HB1
        have HPR := Lib.hid hpr
        have HTT := Lib.hid hT
        have HB2 := Lib.hid hB2
        clear hpr hT hB2
        by_cases hm0 : m = 0
        · subst hm0
          have d1 : ¬ ((0 : Nat) : Int) - 1 ≥ 0 := by omega
          go_wp2_with fail
          have hE := HPE.out
          go_ret
          rw [← hE]
          exact ⟨pb, rfl, ⟨_, _, HPR.out.head, HPR.out.tab.congr (fun i k h1 h2 => HTT.out i k (by omega) (by omega) (by omega))⟩, Nat.le_refl _, HB2.out⟩
        · obtain ⟨i, rfl⟩ : ∃ i, m = i + 1 := ⟨m - 1, by omega⟩
          rw [show (((i + 1 : Nat) : Int) - 1) = (i : Int) by omega]
          have d1 : (i : Int) ≥ 0 := by omega
          go_wp2_with fail
          go_loopw [7] (fun v w3 => ∃ (q : Nat) (T : Nat → Nat → Nat), q ≤ nb + 1 ∧ v = .int .i64 ((q : Int) - 1) ∧ (∀ i' k, i + 1 ≤ i' → i' ≤ na → k ≤ nb → T i' k = DD a b i' k) ∧ (∀ k, q ≤ k → k ≤ nb → T i k = DD a b i k) ∧ PrAt w3 pb pb A na ca B nb cb (.slice (some ⟨g, 0, none⟩) (na + 1) cap) T blk ∧ Below pb w w3) (fun v _ => (intOf v + 1).toNat)
          case atStart => exact ⟨nb + 1, T, Nat.le_refl _, by congr 1 <;> omega, HTT.out, fun k h1 h2 => by omega, HPR.out, HB2.out⟩
          case round =>
            obtain ⟨q, T, hq, rfl, hT, hT2, hpr, hB3⟩ := hrel
            clear HPR HTT HB2
            have HPR := Lib.hid hpr
            have HTT := Lib.hid (And.intro hT hT2)
            have HB3 := Lib.hid hB3
            clear hpr hT hT2 hB3
            by_cases hq0 : q = 0
            · subst hq0
              have d2 : ¬ ((0 : Nat) : Int) - 1 ≥ 0 := by omega
              go_wp2_with fail
              refine ⟨⟨i, T, by omega, by go_num, fun i' k h1 h2 h3 => ?_, HPR.out, HB3.out⟩, by simp [intOf]⟩
              by_cases e : i' = i
              · subst e; exact HTT.out.2 k (by omega) h3
              · exact HTT.out.1 i' k (by omega) h2 h3
            · obtain ⟨k, rfl⟩ : ∃ k, q = k + 1 := ⟨q - 1, by omega⟩
              rw [show (((k + 1 : Nat) : Int) - 1) = (k : Int) by omega]
              have d2 : (k : Int) ≥ 0 := by omega
              have e1 : prc na nb T (i + 1) k = prc na nb (DD a b) (i + 1) k := by
                unfold prc
                split
                · rfl
                · rw [HTT.out.1 (i + 1) k (by omega) (by omega) (by omega)]
              have e2 : prc na nb T i (k + 1) = prc na nb (DD a b) i (k + 1) := by
                unfold prc
                split
                · rfl
                · rw [HTT.out.2 (k + 1) (by omega) (by omega)]
              have e3 : prc na nb T (i + 1) (k + 1) = prc na nb (DD a b) (i + 1) (k + 1) := by
                unfold prc
                split
                · rfl
                · rw [HTT.out.1 (i + 1) (k + 1) (by omega) (by omega) (by omega)]
              have hok : ∀ i k, okF (prc na nb (DD a b) i k) := by
                intro i k
                have := okF_prc a b (by rw [HNA.out, HNB.out]; exact hn) i k
                rwa [HNA.out, HNB.out] at this
              have hb0 : best0 a b i k = (omin (prc na nb (DD a b) (i + 1) k) (prc na nb (DD a b) i (k + 1))).map (· + 1) := by unfold best0; rw [HNA.out, HNB.out]
              have hbok : okF (best0 a b i k) := okF_best0 a b (by rw [HNA.out, HNB.out]; exact hn) i k
              have hmok : okF (omin (prc na nb (DD a b) (i + 1) k) (prc na nb (DD a b) i (k + 1))) := okF_omin (hok _ _) (hok _ _)
              have hm1 := fun ats ty w => run_fmin (P := Try.prog) (hok (i + 1) k) (hok i (k + 1)) ats ty w
              have ha1 := fun t w => run_fadd (P := Try.prog) hmok t w
              have ha2 : FloatKind.f64.format.add (fv (omin (prc na nb (DD a b) (i + 1) k) (prc na nb (DD a b) i (k + 1)))) 4607182418800017408 = some (fv (best0 a b i k)) := by
                rw [hb0]
                exact fv_add hmok
              rw [← hb0] at ha1
              have hm2 := fun ats ty w => run_fmin (P := Try.prog) hbok (hok (i + 1) (k + 1)) ats ty w
              obtain ⟨X, hX⟩ : ∃ X, X = prc na nb (DD a b) (i + 1) k := ⟨_, rfl⟩
              obtain ⟨Y, hY⟩ : ∃ Y, Y = prc na nb (DD a b) i (k + 1) := ⟨_, rfl⟩
              obtain ⟨Z, hZ⟩ : ∃ Z, Z = prc na nb (DD a b) (i + 1) (k + 1) := ⟨_, rfl⟩
              obtain ⟨U, hU⟩ : ∃ U, U = best0 a b i k := ⟨_, rfl⟩
              obtain ⟨M, hM⟩ : ∃ M, M = omin X Y := ⟨_, rfl⟩
              rw [← hX] at e1 hm1 ha1 ha2
              rw [← hY] at e2 hm1 ha1 ha2
              rw [← hM] at hm1 ha1 ha2
              rw [← hZ] at e3 hm2
              rw [← hU] at hm2 ha1 ha2 hbok
              have HE1 := Lib.hid e1
              have HE2 := Lib.hid e2
              have HE3 := Lib.hid e3
              have HU := Lib.hid hU
              have HZ := Lib.hid hZ
              have HM1 := Lib.hid hm1
              have HM2 := Lib.hid hm2
              have HBOK := Lib.hid hbok
              have HA1 := Lib.hid (And.intro ha1 ha2)
              clear e1 e2 e3 hX hY hZ hU hM hm1 hm2 ha1 ha2 hbok hmok hok hb0
              go_wp2_with fail
              refine (at_x _ pb pb A na ca B nb cb _ T blk _ _ (i + 1) k (by omega) (by omega) HPR.out).mono ?_
              rw [HE1.out]
              rintro e w4 ⟨rfl, hB4⟩
              have HPR4 := Lib.hid (HPR.out.below hB4)
              have HB4 := Lib.hid (below_then' HB3.out (blk_lt HPR.out.head) hB4)
              clear hB4 HPR HB3 HE1
              go_wp2_with fail
              refine (at_x _ pb pb A na ca B nb cb _ T blk _ _ i (k + 1) (by omega) (by omega) HPR4.out).mono ?_
              rw [HE2.out]
              rintro e w5 ⟨rfl, hB5⟩
              have HPR5 := Lib.hid (HPR4.out.below hB5)
              have HB5 := Lib.hid (below_then' HB4.out (blk_lt HPR4.out.head) hB5)
              clear hB5 HPR4 HB4 HE2
              have hm1 := HM1.out
              have ha1 := HA1.out.1
              have ha2 := HA1.out.2
              go_wp2_with fail
              refine (isInf_any U HBOK.out _).mono ?_
              rintro e w6 ⟨rfl, hB6⟩
              have HPR6 := Lib.hid (HPR5.out.below hB6)
              have HB6 := Lib.hid (below_then' HB5.out (blk_lt HPR5.out.head) hB6)
              clear hB6 HPR5 HB5 hm1 ha1 ha2 HM1 HA1
              have hnone : U.isNone = decide (i = na ∧ k = nb) := by
                rw [HU.out, best0_none a b i k (by rw [HNA.out]; omega) (by rw [HNB.out]; omega), HNA.out, HNB.out]
              have HFIN := Lib.hid (show ∀ W, PrAt W pb pb A na ca B nb cb (.slice (some ⟨g, 0, none⟩) (na + 1) cap) T blk → Below pb w W → ∃ T', (∀ i' k', i + 1 ≤ i' → i' ≤ na → k' ≤ nb → T' i' k' = DD a b i' k') ∧ (∀ k', k ≤ k' → k' ≤ nb → T' i k' = DD a b i k') ∧ PrAt (W.setCell ⟨blk i, k, none⟩ (flt (DD a b i k))) pb pb A na ca B nb cb (.slice (some ⟨g, 0, none⟩) (na + 1) cap) T' blk ∧ Below pb w (W.setCell ⟨blk i, k, none⟩ (flt (DD a b i k))) from by
                intro W hp hB
                refine ⟨_, fun i' k' h1 h2 h3 => ?_, fun k' h1 h2 => ?_, hp.put (i := i) (k := k) (by omega) (by omega) (DD a b i k), hB.setCell (p := ⟨blk i, k, none⟩) (hp.tab.row i (by omega)).1 _⟩
                · rw [if_neg (by omega)]
                  exact HTT.out.1 i' k' h1 h2 h3
                · by_cases e : k' = k
                  · rw [if_pos ⟨rfl, e⟩, e]
                  · rw [if_neg (by omega)]
                    exact HTT.out.2 k' (by omega) h2)
              clear HTT
              by_cases hend : i = na ∧ k = nb
              · rw [decide_eq_true hend] at hnone
                have hDD : DD a b i k = 0 := by rw [hend.1, hend.2, ← HNA.out, ← HNB.out]; exact DD_end a b
                obtain ⟨c0, c1, c2⟩ := head_cells HPR6.out.head
                obtain ⟨c3, c4, l4, f4⟩ := HPR6.out.tab.get g cap rfl (i := i) (k := k) (by omega) (by omega)
                have l3 := blk_lt HPR6.out.head
                have HFZ := Lib.hid (show Value.float .f64 0 = flt (DD a b i k) by rw [hDD, flt, fw_zero])
                have hin : (i : Int) < (na : Int) + 1 := by omega
                have hkn : (k : Int) < (nb : Int) + 1 := by omega
                clear hDD hend
                generalize hbi : blk i = bi at *
                go_wp2_with fail
                obtain ⟨T', t1, t2, t3, t4⟩ := HFIN.out w6 HPR6.out HB6.out
                rw [← HFZ.out] at t3 t4
                refine ⟨?_, by simp [intOf]⟩
                repeat apply Exists.intro
                refine ⟨⟨k, T', by omega, rfl, t1, t2, t3, t4⟩, rfl⟩
              · rw [decide_eq_false hend] at hnone
                go_wp2_with fail
                refine (alike_x na nb _ pb A ca B cb _ a b HNA.out HNB.out _ _ i k (by omega) (by omega) HPR6.out.head (Kd.C_below HA.out (by rw [← HPE.out]; exact HB6.out)) (Kd.C_below HB.out (by rw [← HPE.out]; exact HB6.out))).mono ?_
                rintro e w7 ⟨rfl, hB7⟩
                have HPR7 := Lib.hid (HPR6.out.below hB7)
                have HB7 := Lib.hid (below_then' HB6.out (blk_lt HPR6.out.head) hB7)
                clear hB7 HPR6 HB6
                by_cases hal : alikeB a b i k = true
                · have HUA := Lib.hid (show omin U Z = some (DD a b i k) by
                    have := best0_alike a b i k hal
                    rw [HNA.out, HNB.out] at this
                    rw [HU.out, HZ.out]
                    exact this)
                  go_wp2_with fail
                  refine (at_x _ pb pb A na ca B nb cb _ T blk _ _ (i + 1) (k + 1) (by omega) (by omega) HPR7.out).mono ?_
                  rw [HE3.out]
                  rintro e w8 ⟨rfl, hB8⟩
                  have HPR8 := Lib.hid (HPR7.out.below hB8)
                  have HB8 := Lib.hid (below_then' HB7.out (blk_lt HPR7.out.head) hB8)
                  clear hB8 HPR7 HB7
                  have hm2 := HM2.out
                  rw [HUA.out] at hm2
                  obtain ⟨c0, c1, c2⟩ := head_cells HPR8.out.head
                  obtain ⟨c3, c4, l4, f4⟩ := HPR8.out.tab.get g cap rfl (i := i) (k := k) (by omega) (by omega)
                  have l3 := blk_lt HPR8.out.head
                  have hin : (i : Int) < (na : Int) + 1 := by omega
                  have hkn : (k : Int) < (nb : Int) + 1 := by omega
                  have HFZ := Lib.hid (show Value.float .f64 (fv (some (DD a b i k))) = flt (DD a b i k) from rfl)
                  clear hend
                  generalize hbi : blk i = bi at *
                  generalize hfvv : fv (some (DD a b i k)) = fx at *
                  go_wp2_with fail
                  obtain ⟨T', t1, t2, t3, t4⟩ := HFIN.out w8 HPR8.out HB8.out
                  rw [← HFZ.out] at t3 t4
                  refine ⟨?_, by simp [intOf]⟩
                  repeat apply Exists.intro
                  refine ⟨⟨k, T', by omega, rfl, t1, t2, t3, t4⟩, rfl⟩
                · have hal : alikeB a b i k = false := by simpa using hal
                  have HUA := Lib.hid (show U = some (DD a b i k) by
                    rw [HU.out]
                    exact best0_other a b i k (by rw [HNA.out]; omega) (by rw [HNB.out]; omega) hal (by rw [HNA.out, HNB.out]; exact hend))
                  obtain ⟨c0, c1, c2⟩ := head_cells HPR7.out.head
                  obtain ⟨c3, c4, l4, f4⟩ := HPR7.out.tab.get g cap rfl (i := i) (k := k) (by omega) (by omega)
                  have l3 := blk_lt HPR7.out.head
                  have hin : (i : Int) < (na : Int) + 1 := by omega
                  have hkn : (k : Int) < (nb : Int) + 1 := by omega
                  have HFZ := Lib.hid (show Value.float .f64 (fv U) = flt (DD a b i k) by rw [HUA.out]; rfl)
                  clear hend
                  generalize hbi : blk i = bi at *
                  generalize hfvv : fv U = fx at *
                  go_wp2_with fail
                  obtain ⟨T', t1, t2, t3, t4⟩ := HFIN.out w7 HPR7.out HB7.out
                  rw [← HFZ.out] at t3 t4
                  refine ⟨?_, by simp [intOf]⟩
                  repeat apply Exists.intro
                  refine ⟨⟨k, T', by omega, rfl, t1, t2, t3, t4⟩, rfl⟩
end Go.Proofs.Ytjclpepdjnffaaa
