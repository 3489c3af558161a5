/- DatagramKeeps' walk: for every row of packets and every place it comes to true. -/
import Derived.Test.YtjkgkkopfpkdfaaCopies
import Derived.Test.YtjkgkkopfpkdfaaRegion
set_option linter.unusedVariables false
set_option linter.unusedSimpArgs false
namespace Go.Proofs.Ytjkgkkopfpkdfaa
open Go.RowKit Go.Conc Go.Proofs.YtjkgkkopfpkdfaaW.PrintWords Go.Proofs.YtjkgkkopfpkdfaaW.PrintLast

/-- What is left of a row without its k-th, when i have been looked at. -/
def left (xs : List Pkt) (k i : Nat) : List Pkt := if i ≤ k then (xs.drop i).eraseIdx (k - i) else xs.drop i
theorem left_zero (xs : List Pkt) (k : Nat) : left xs k 0 = xs.eraseIdx k := by simp [left]
theorem left_at (xs : List Pkt) (k : Nat) (hk : k < xs.length) : left xs k k = left xs k (k + 1) := by
  rw [left, left, if_pos (Nat.le_refl _), if_neg (by omega), List.drop_eq_getElem_cons hk, Nat.sub_self]
  rfl
theorem left_next (xs : List Pkt) (k i : Nat) (hi : i < xs.length) (hne : i ≠ k) : left xs k i = xs[i] :: left xs k (i + 1) := by
  unfold left
  by_cases h : i ≤ k
  · rw [if_pos h, if_pos (by omega), List.drop_eq_getElem_cons hi, show k - i = (k - (i + 1)) + 1 by omega, List.eraseIdx_cons_succ]
  · rw [if_neg h, if_neg (by omega), List.drop_eq_getElem_cons hi]
theorem left_end (xs : List Pkt) (k : Nat) (hk : k < xs.length) : left xs k xs.length = [] := by
  rw [left, if_neg (by omega), List.drop_length]
theorem left_len (xs : List Pkt) (k i : Nat) : (left xs k i).length ≤ xs.length := by
  unfold left
  split
  · have := List.length_eraseIdx_le (xs.drop i) (k - i)
    simp at this ⊢
    omega
  · simp

theorem cell_lt {w : World} {p : Addr} {v : Value} (h : w.cell? p = some v) : p.block < w.heap.size := by
  rcases Nat.lt_or_ge p.block w.heap.size with hl | hl
  · exact hl
  · simp [World.cell?, Array.getElem?_eq_none hl] at h
/-- Cells that are read so: they stay so, whatever a call does that turns nothing that was there. -/
def Six (w : World) (B : Nat) (p : Addr) (x0 x1 x2 y0 y1 y2 : Value) : Prop :=
  w.cell? ⟨B, 0, none⟩ = some x0 ∧ w.cell? ⟨B, 1, none⟩ = some x1 ∧ w.cell? ⟨B, 2, none⟩ = some x2 ∧ w.cell? p = some y0 ∧ w.cell? ⟨p.block, p.off + 1, none⟩ = some y1 ∧ w.cell? ⟨p.block, p.off + 2, none⟩ = some y2
theorem Six.below {w w' : World} {B : Nat} {p : Addr} {x0 x1 x2 y0 y1 y2 : Value} (h : Six w B p x0 x1 x2 y0 y1 y2) (hB : Below w.heap.size w w') : Six w' B p x0 x1 x2 y0 y1 y2 := by
  obtain ⟨a, b, c, d, e, f⟩ := h
  exact ⟨(hB.cell (cell_lt a)).trans a, (hB.cell (cell_lt b)).trans b, (hB.cell (cell_lt c)).trans c, (hB.cell (cell_lt d)).trans d, (hB.cell (cell_lt e)).trans e, (hB.cell (cell_lt f)).trans f⟩

set_option maxRecDepth 100000 in
set_option maxHeartbeats 4000000 in
theorem keeps_true (A : Option Addr) (cp : Nat) (xs : List Pkt) (a : Int) (w : World) (h : Kd.C kPkt w A xs.length xs) (hb : ∀ p ∈ xs, p.d.length ≤ 140737488351232)
    (ha0 : 0 ≤ a) (ha1 : a ≤ 255) :
    Calls Try.prog 4 #[.slice A xs.length cp, .int .u8 a] w fun e w' => e = .returned (.bool true) ∧ Below w.heap.size w w' := by
  obtain ⟨m, rfl⟩ := Int.eq_ofNat_of_zero_le ha0
  have HC := Lib.hid h
  clear h
  go_enter Try.func4, Try.ntmps4
  go_wp2_with fail
  refine (head_true _).mono ?_
  rintro e w1 ⟨rfl, hB⟩
  have HB1 := Lib.hid hB
  clear hB
  go_wp2_with fail
  refine (newR w1).mono ?_
  rintro e w2 ⟨nb, c, rfl, n2, hcc, hB⟩
  have HB2 := Lib.hid (below_then HB1.out HB1.out.size hB)
  have hsz : w.heap.size ≤ c := by have := HB1.out.size; omega
  have HN2 := Lib.hid n2
  clear hB n2 HB1
  by_cases hbig : 100 < xs.length
  · have d1 : decide ((100 : Int) < (xs.length : Int)) = true := decide_eq_true (by omega)
    go_wp2_with fail
    go_ret
    exact ⟨rfl, HB2.out⟩
  · have d1 : decide ((100 : Int) < (xs.length : Int)) = false := decide_eq_false (by omega)
    go_wp2_with fail
    have hcn := HN2.out.lt
    go_loopw [7] (fun v wr => ∃ i : Nat, i ≤ xs.length ∧ v = .int .i64 i ∧ (∃ vals, NetOk wr nb c vals (xs.take i)) ∧ w.grownBy wr (some c)) (fun v _ => 256 - (intOf v).toNat)
    case atStart => exact ⟨0, by omega, rfl, ⟨_, by simpa using HN2.out⟩, gb_below HB2.out _⟩
    case round =>
      obtain ⟨i, hi, rfl, ⟨vals, hn⟩, hg⟩ := hrel
      have hC := Kd.C_below HC.out (gb_to_below hg (Nat.le_refl _) (fun k e => by have := Option.some.inj e; omega))
      have HCr := Lib.hid hC
      have HNr := Lib.hid hn
      have HGr := Lib.hid hg
      clear hC hn hg HN2 HB2
      by_cases hlt : i < xs.length
      · have d2 : decide ((i : Int) < (xs.length : Int)) = true := decide_eq_true (by omega)
        obtain ⟨ad, A2, c2, rfl, x0, x1, x2, hc2, hC2⟩ := at_Pkt HCr.out i xs[i] (List.getElem?_eq_getElem hlt)
        have HC2 := Lib.hid hC2
        clear hC2
        by_cases hbd : 1000 < xs[i].d.length
        · have d3 : decide ((1000 : Int) < (xs[i].d.length : Int)) = true := decide_eq_true (by omega)
          go_wp2_with fail
          go_ret
          exact ⟨rfl, gb_to_below HGr.out (Nat.le_refl _) (fun k e => by have := Option.some.inj e; omega)⟩
        · have d3 : decide ((1000 : Int) < (xs[i].d.length : Int)) = false := decide_eq_false (by omega)
          go_wp2_with fail
          refine (postR xs[i].f xs[i].t A2 c2 xs[i].d nb c vals _ _ HNr.out HC2.out hc2 (by omega) (by simp; omega)).mono ?_
          rintro e w3 ⟨v, rfl, n3, g3⟩
          have HN3 := Lib.hid n3
          have HG3 := Lib.hid (gb_trans HGr.out g3)
          clear n3 g3 HNr HGr
          go_wp2_with fail
          go_roundw
          case rel => exact ⟨i + 1, by omega, by go_num, ⟨_, by rw [List.take_succ_eq_append_getElem hlt]; exact HN3.out⟩, HG3.out⟩
          case measure => simp [intOf]; omega
      · obtain rfl : i = xs.length := by omega
        have HN3 := Lib.hid HNr.out
        rw [List.take_length] at HN3
        have HG3 := Lib.hid HGr.out
        clear HNr HGr
        by_cases h0 : xs.length = 0
        · have d4 : ((xs.length : Int) == 0) = true := by simp [h0]
          have e0 : xs = [] := List.length_eq_zero_iff.1 h0
          go_wp2_with fail
          refine (takeN nb c _ _ 0 _ HN3.out (by simp [h0])).mono ?_
          rintro e w6 ⟨rfl, _, g6⟩
          have HG6 := Lib.hid (gb_trans HG3.out g6)
          clear g6 HG3 HN3
          go_wp2_with fail
          go_ret
          exact ⟨rfl, gb_to_below (gb_alloc HG6.out _) (Nat.le_refl _) (fun k e => by have := Option.some.inj e; omega)⟩
        · have d4 : ((xs.length : Int) == 0) = false := by simpa using h0
          have hne : (xs.length : Int) ≠ 0 := by omega
          obtain ⟨k, hk, hkl⟩ : ∃ k : Nat, (m : Int).tmod xs.length = (k : Int) ∧ k < xs.length := ⟨m % xs.length, by rw [Int.tmod_eq_emod_of_nonneg (by omega)]; omega, Nat.mod_lt _ (by omega)⟩
          go_wp2_with fail
          have hxk : xs[k]? = some xs[k] := List.getElem?_eq_getElem hkl
          refine (takeR nb c _ _ k xs[k] _ HN3.out (by omega) hxk).mono ?_
          rintro e w6 ⟨A6, c6, rfl, n6, pk6, hc6, C6, ap6, g6⟩
          have HN6 := Lib.hid n6
          have HC6 := Lib.hid C6
          have HG6 := Lib.hid (gb_trans HG3.out g6)
          clear n6 pk6 C6 ap6 g6 HN3 HG3 HCr
          go_upto_region 17 with (fail)
          generalize hW : w6.alloc (.cells #[.int .i64 xs[k].f, .int .i64 xs[k].t, .slice A6 xs[k].d.length c6] 33) = W
          have hBW : Below w6.heap.size w6 W := by rw [← hW]; exact (Below.refl _ _).alloc (Nat.le_refl _) _
          have hbx : W.heap[w6.heap.size]? = some (.cells #[.int .i64 xs[k].f, .int .i64 xs[k].t, .slice A6 xs[k].d.length c6] 33 (0, 0)) := by rw [← hW]; exact blk_new _ _
          have HGW := Lib.hid (gb_then HG6.out hBW)
          have HNW := Lib.hid (HN6.out.below hBW)
          have HC7 := Lib.hid (Kd.C_below HC6.out hBW)
          have HCW := Lib.hid (Kd.C_below HC.out (gb_to_below HGW.out (Nat.le_refl _) (fun k e => by have := Option.some.inj e; omega)))
          obtain ⟨ad, A2, c2, rfl, x0, x1, x2, hc2, hC2⟩ := at_Pkt HCW.out k xs[k] hxk
          have HC2 := Lib.hid hC2
          obtain ⟨y0, y1, y2, _⟩ := cells3 hbx
          have HS := Lib.hid (show Six W w6.heap.size (ad.add (k * 3)) _ _ _ _ _ _ from ⟨y0, y1, y2, x0, x1, x2⟩)
          clear hC2 hbx x0 x1 x2 y0 y1 y2 hBW hW HG6 HN6 HC6
          refine start_ (S := fun w' => Six w' w6.heap.size (ad.add (k * 3)) (.int .i64 xs[k].f) (.int .i64 xs[k].t) (.slice A6 xs[k].d.length c6) (.int .i64 xs[k].f) (.int .i64 xs[k].t) (.slice A2 xs[k].d.length c2)) (ds := [9, 10]) (n := 11) #[false, false, false, false, false, false, false, false, false, false, false] rfl rfl rfl ?hS0 (fun hHeld => ?hrun)
          case hS0 => exact HS.out
          case hrun =>
            refine pure_ (i := 0) (N := some 75) (v := ?_) (a' := ?_) #[true, false, false, false, false, false, false, false, false, false, false] rfl rfl (by kernel_rfl) (fun _ _ _ h => h) (Or.inl ⟨by rfl, ?_⟩) ?_ ?_
            rotate_left
            · intro w'
              go_simp
              with_reducible rfl
            rotate_left
            · simp only [Act.put, List.setIfInBounds_toArray, List.set_cons_zero, List.set_cons_succ, i64_w, i32_w]
              rfl
            refine pure_ (i := 1) (N := some 76) (v := ?_) (a' := ?_) #[true, true, false, false, false, false, false, false, false, false, false] rfl rfl (by kernel_rfl) (fun _ _ _ h => h) (Or.inl ⟨by rfl, ?_⟩) ?_ ?_
            rotate_left
            · intro w'
              go_simp
              with_reducible rfl
            rotate_left
            · simp only [Act.put, List.setIfInBounds_toArray, List.set_cons_zero, List.set_cons_succ, i64_w, i32_w]
              rfl
            refine pure_ (i := 2) (N := some 77) (v := ?_) (a' := ?_) #[true, true, true, false, false, false, false, false, false, false, false] rfl rfl (by kernel_rfl) (fun _ _ _ h => h) (Or.inl ⟨by rfl, ?_⟩) ?_ ?_
            rotate_left
            · intro w'
              go_simp
              with_reducible rfl
            rotate_left
            · simp only [Act.put, List.setIfInBounds_toArray, List.set_cons_zero, List.set_cons_succ, i64_w, i32_w]
              rfl
            refine take_ (i := 3) (N := some 78) (v := ?_) (a' := ?_) #[true, true, true, true, false, false, false, false, false, false, false] rfl rfl (by kernel_rfl) (fun _ _ _ h => h) (Or.inl ⟨by rfl, ?_⟩) hHeld ?_ ?_
            rotate_left
            · rintro w' ⟨s0, s1, s2, s3, s4, s5⟩
              go_simp
              with_reducible rfl
            rotate_left
            · simp only [Act.put, List.setIfInBounds_toArray, List.set_cons_zero, List.set_cons_succ, i64_w, i32_w]
              rfl
            refine pure_ (i := 4) (N := some 79) (v := ?_) (a' := ?_) #[true, true, true, true, true, false, false, false, false, false, false] rfl rfl (by kernel_rfl) (fun _ _ _ h => h) (Or.inl ⟨by rfl, ?_⟩) ?_ ?_
            rotate_left
            · intro w'
              go_simp
              with_reducible rfl
            rotate_left
            · simp only [Act.put, List.setIfInBounds_toArray, List.set_cons_zero, List.set_cons_succ, i64_w, i32_w]
              rfl
            refine pure_ (i := 5) (N := some 80) (v := ?_) (a' := ?_) #[true, true, true, true, true, true, false, false, false, false, false] rfl rfl (by kernel_rfl) (fun _ _ _ h => h) (Or.inl ⟨by rfl, ?_⟩) ?_ ?_
            rotate_left
            · intro w'
              go_simp
              with_reducible rfl
            rotate_left
            · simp only [Act.put, List.setIfInBounds_toArray, List.set_cons_zero, List.set_cons_succ, i64_w, i32_w]
              rfl
            refine pure_ (i := 6) (N := some 81) (v := ?_) (a' := ?_) #[true, true, true, true, true, true, true, false, false, false, false] rfl rfl (by kernel_rfl) (fun _ _ _ h => h) (Or.inl ⟨by rfl, ?_⟩) ?_ ?_
            rotate_left
            · intro w'
              go_simp
              with_reducible rfl
            rotate_left
            · simp only [Act.put, List.setIfInBounds_toArray, List.set_cons_zero, List.set_cons_succ, i64_w, i32_w]
              rfl
            refine take_ (i := 7) (N := some 82) (v := ?_) (a' := ?_) #[true, true, true, true, true, true, true, true, false, false, false] rfl rfl (by kernel_rfl) (fun _ _ _ h => h) (Or.inl ⟨by rfl, ?_⟩) hHeld ?_ ?_
            rotate_left
            · rintro w' ⟨s0, s1, s2, s3, s4, s5⟩
              go_simp
              with_reducible rfl
            rotate_left
            · simp only [Act.put, List.setIfInBounds_toArray, List.set_cons_zero, List.set_cons_succ, i64_w, i32_w]
              rfl
            refine one_ (i := 8) (N := some 83) #[true, true, true, true, true, true, true, true, true, false, false] rfl rfl (by kernel_rfl) (by decide) (fun K hK => ?_)
            refine goes_ Try.func12 (by kernel_rfl) rfl #[.agg #[.int .i64 xs[k].f, .int .i64 xs[k].t, .slice A6 xs[k].d.length c6], .agg #[.int .i64 xs[k].f, .int .i64 xs[k].t, .slice A2 xs[k].d.length c2]] (by rfl) rfl rfl (by (try simp only [List.map_toArray, List.map_cons, List.map_nil]); first | done | rfl) ?_
            refine (same_true xs[k] A6 A2 c6 c2 _ (Kd.C_below HC7.out (Below.refl _ _).drew) (Kd.C_below HC2.out (Below.refl _ _).drew)).mono ?_
            rintro e w7 ⟨rfl, hB7⟩
            have hB7' := below_then (Below.refl W.heap.size W).drew (by simp) hB7
            have HB7 := Lib.hid hB7'
            clear hB7 hB7'
            refine ⟨_, rfl, ?_⟩
            refine hK.out _ _ (HS.out.below HB7.out) (fun hHeld1 => ?_)
            clear hK K
            refine norm_ (a' := ?_) ?_ ?_
            rotate_left
            · show Act.put _ (some 83) _ = _
              simp only [Act.put, List.setIfInBounds_toArray, List.set_cons_zero, List.set_cons_succ, i64_w, i32_w]
              rfl
            refine tail_list 9 (t := [9, 10]) (fuel := 0) rfl rfl rfl (by kernel_rfl) (by decide) ?_
            have HN8 := Lib.hid (HNW.out.below HB7.out)
            have HG8 := Lib.hid (gb_then HGW.out HB7.out)
            clear HNW HGW HB7 HC7 HC2 HS
            rw [← left_zero] at HN8
            go_wp2_with fail
            go_loopw [13] (fun v wr => ∃ i : Nat, i ≤ xs.length ∧ v = .int .i64 i ∧ (∃ vals, NetOk wr nb c vals (left xs k i)) ∧ w.grownBy wr (some c)) (fun v _ => 256 - (intOf v).toNat)
            case atStart => exact ⟨0, by omega, rfl, ⟨_, HN8.out⟩, HG8.out⟩
            case round =>
              obtain ⟨i, hi, rfl, ⟨vals, hn⟩, hg⟩ := hrel
              have HNr := Lib.hid hn
              have HGr := Lib.hid hg
              clear hn hg HN8 HG8
              by_cases hlt : i < xs.length
              · have d2 : decide ((i : Int) < (xs.length : Int)) = true := decide_eq_true (by omega)
                by_cases hik : i = k
                · subst hik
                  have d3 : ((i : Int) == (i : Int)) = true := by simp
                  go_wp2_with fail
                  go_roundw
                  case rel => exact ⟨i + 1, by omega, by go_num, ⟨_, by rw [← left_at _ _ hlt]; exact HNr.out⟩, HGr.out⟩
                  case measure => simp [intOf]; omega
                · have d3 : ((i : Int) == (k : Int)) = false := beq_false_of_ne (by omega)
                  have hnr := HNr.out
                  rw [left_next xs k i hlt hik] at hnr
                  have hll := left_len xs k i
                  rw [left_next xs k i hlt hik] at hll
                  have HN9 := Lib.hid hnr
                  clear hnr HNr
                  have hxi : xs[i]? = some xs[i] := List.getElem?_eq_getElem hlt
                  go_wp2_with fail
                  refine (takeR nb c _ _ 0 xs[i] _ HN9.out (by omega) rfl).mono ?_
                  rintro e w6 ⟨A6, c6, rfl, n6, pk6, hc6, C6, ap6, g6⟩
                  rw [List.eraseIdx_cons_zero] at n6
                  have HN6 := Lib.hid n6
                  have HC6 := Lib.hid C6
                  have HG6 := Lib.hid (gb_trans HGr.out g6)
                  clear n6 pk6 C6 ap6 g6 HN9 HGr
                  go_upto_region 24 with (fail)
                  generalize hW : w6.alloc (.cells #[.int .i64 xs[i].f, .int .i64 xs[i].t, .slice A6 xs[i].d.length c6] 33) = W
                  have hBW : Below w6.heap.size w6 W := by rw [← hW]; exact (Below.refl _ _).alloc (Nat.le_refl _) _
                  have hbx : W.heap[w6.heap.size]? = some (.cells #[.int .i64 xs[i].f, .int .i64 xs[i].t, .slice A6 xs[i].d.length c6] 33 (0, 0)) := by rw [← hW]; exact blk_new _ _
                  have HGW := Lib.hid (gb_then HG6.out hBW)
                  have HNW := Lib.hid (HN6.out.below hBW)
                  have HC7 := Lib.hid (Kd.C_below HC6.out hBW)
                  have HCW := Lib.hid (Kd.C_below HC.out (gb_to_below HGW.out (Nat.le_refl _) (fun k e => by have := Option.some.inj e; omega)))
                  obtain ⟨ad', A2, c2, had, x0, x1, x2, hc2, hC2⟩ := at_Pkt HCW.out i xs[i] hxi
                  obtain rfl : ad' = ad := (Option.some.inj had).symm
                  have HC2 := Lib.hid hC2
                  obtain ⟨y0, y1, y2, _⟩ := cells3 hbx
                  have HS := Lib.hid (show Six W w6.heap.size (ad'.add (i * 3)) _ _ _ _ _ _ from ⟨y0, y1, y2, x0, x1, x2⟩)
                  clear hC2 hbx x0 x1 x2 y0 y1 y2 hBW hW HG6 HN6 HC6
                  refine start_ (S := fun w' => Six w' w6.heap.size (ad'.add (i * 3)) (.int .i64 xs[i].f) (.int .i64 xs[i].t) (.slice A6 xs[i].d.length c6) (.int .i64 xs[i].f) (.int .i64 xs[i].t) (.slice A2 xs[i].d.length c2)) (ds := [9, 10]) (n := 11) #[false, false, false, false, false, false, false, false, false, false, false] rfl rfl rfl ?hS0 (fun hHeld => ?hrun)
                  case hS0 => exact HS.out
                  case hrun =>
                    refine pure_ (i := 0) (N := some 100) (v := ?_) (a' := ?_) #[true, false, false, false, false, false, false, false, false, false, false] rfl rfl (by kernel_rfl) (fun _ _ _ h => h) (Or.inl ⟨by rfl, ?_⟩) ?_ ?_
                    rotate_left
                    · intro w'
                      go_simp
                      with_reducible rfl
                    rotate_left
                    · simp only [Act.put, List.setIfInBounds_toArray, List.set_cons_zero, List.set_cons_succ, i64_w, i32_w]
                      rfl
                    refine pure_ (i := 1) (N := some 101) (v := ?_) (a' := ?_) #[true, true, false, false, false, false, false, false, false, false, false] rfl rfl (by kernel_rfl) (fun _ _ _ h => h) (Or.inl ⟨by rfl, ?_⟩) ?_ ?_
                    rotate_left
                    · intro w'
                      go_simp
                      with_reducible rfl
                    rotate_left
                    · simp only [Act.put, List.setIfInBounds_toArray, List.set_cons_zero, List.set_cons_succ, i64_w, i32_w]
                      rfl
                    refine pure_ (i := 2) (N := some 102) (v := ?_) (a' := ?_) #[true, true, true, false, false, false, false, false, false, false, false] rfl rfl (by kernel_rfl) (fun _ _ _ h => h) (Or.inl ⟨by rfl, ?_⟩) ?_ ?_
                    rotate_left
                    · intro w'
                      go_simp
                      with_reducible rfl
                    rotate_left
                    · simp only [Act.put, List.setIfInBounds_toArray, List.set_cons_zero, List.set_cons_succ, i64_w, i32_w]
                      rfl
                    refine take_ (i := 3) (N := some 103) (v := ?_) (a' := ?_) #[true, true, true, true, false, false, false, false, false, false, false] rfl rfl (by kernel_rfl) (fun _ _ _ h => h) (Or.inl ⟨by rfl, ?_⟩) hHeld ?_ ?_
                    rotate_left
                    · rintro w' ⟨s0, s1, s2, s3, s4, s5⟩
                      go_simp
                      with_reducible rfl
                    rotate_left
                    · simp only [Act.put, List.setIfInBounds_toArray, List.set_cons_zero, List.set_cons_succ, i64_w, i32_w]
                      rfl
                    refine pure_ (i := 4) (N := some 104) (v := ?_) (a' := ?_) #[true, true, true, true, true, false, false, false, false, false, false] rfl rfl (by kernel_rfl) (fun _ _ _ h => h) (Or.inl ⟨by rfl, ?_⟩) ?_ ?_
                    rotate_left
                    · intro w'
                      go_simp
                      with_reducible rfl
                    rotate_left
                    · simp only [Act.put, List.setIfInBounds_toArray, List.set_cons_zero, List.set_cons_succ, i64_w, i32_w]
                      rfl
                    refine pure_ (i := 5) (N := some 105) (v := ?_) (a' := ?_) #[true, true, true, true, true, true, false, false, false, false, false] rfl rfl (by kernel_rfl) (fun _ _ _ h => h) (Or.inl ⟨by rfl, ?_⟩) ?_ ?_
                    rotate_left
                    · intro w'
                      go_simp
                      with_reducible rfl
                    rotate_left
                    · simp only [Act.put, List.setIfInBounds_toArray, List.set_cons_zero, List.set_cons_succ, i64_w, i32_w]
                      rfl
                    refine pure_ (i := 6) (N := some 106) (v := ?_) (a' := ?_) #[true, true, true, true, true, true, true, false, false, false, false] rfl rfl (by kernel_rfl) (fun _ _ _ h => h) (Or.inl ⟨by rfl, ?_⟩) ?_ ?_
                    rotate_left
                    · intro w'
                      go_simp
                      with_reducible rfl
                    rotate_left
                    · simp only [Act.put, List.setIfInBounds_toArray, List.set_cons_zero, List.set_cons_succ, i64_w, i32_w]
                      rfl
                    refine take_ (i := 7) (N := some 107) (v := ?_) (a' := ?_) #[true, true, true, true, true, true, true, true, false, false, false] rfl rfl (by kernel_rfl) (fun _ _ _ h => h) (Or.inl ⟨by rfl, ?_⟩) hHeld ?_ ?_
                    rotate_left
                    · rintro w' ⟨s0, s1, s2, s3, s4, s5⟩
                      go_simp
                      with_reducible rfl
                    rotate_left
                    · simp only [Act.put, List.setIfInBounds_toArray, List.set_cons_zero, List.set_cons_succ, i64_w, i32_w]
                      rfl
                    refine one_ (i := 8) (N := some 108) #[true, true, true, true, true, true, true, true, true, false, false] rfl rfl (by kernel_rfl) (by decide) (fun K hK => ?_)
                    refine goes_ Try.func12 (by kernel_rfl) rfl #[.agg #[.int .i64 xs[i].f, .int .i64 xs[i].t, .slice A6 xs[i].d.length c6], .agg #[.int .i64 xs[i].f, .int .i64 xs[i].t, .slice A2 xs[i].d.length c2]] (by rfl) rfl rfl (by (try simp only [List.map_toArray, List.map_cons, List.map_nil]); first | done | rfl) ?_
                    refine (same_true xs[i] A6 A2 c6 c2 _ (Kd.C_below HC7.out (Below.refl _ _).drew) (Kd.C_below HC2.out (Below.refl _ _).drew)).mono ?_
                    rintro e w7 ⟨rfl, hB7⟩
                    have hB7' := below_then (Below.refl W.heap.size W).drew (by simp) hB7
                    have HB7 := Lib.hid hB7'
                    clear hB7 hB7'
                    refine ⟨_, rfl, ?_⟩
                    refine hK.out _ _ (HS.out.below HB7.out) (fun hHeld1 => ?_)
                    clear hK K
                    refine norm_ (a' := ?_) ?_ ?_
                    rotate_left
                    · show Act.put _ (some 108) _ = _
                      simp only [Act.put, List.setIfInBounds_toArray, List.set_cons_zero, List.set_cons_succ, i64_w, i32_w]
                      rfl
                    refine tail_list 9 (t := [9, 10]) (fuel := 0) rfl rfl rfl (by kernel_rfl) (by decide) ?_
                    have HN8 := Lib.hid (HNW.out.below HB7.out)
                    have HG8 := Lib.hid (gb_then HGW.out HB7.out)
                    clear HNW HGW HB7 HC7 HC2 HS
                    go_wp2_with fail
                    go_roundw
                    case rel => exact ⟨i + 1, by omega, by go_num, ⟨_, HN8.out⟩, HG8.out⟩
                    case measure => simp [intOf]; omega
              · obtain rfl : i = xs.length := by omega
                have d2 : decide ((xs.length : Int) < (xs.length : Int)) = false := decide_eq_false (by omega)
                have hnr := HNr.out
                rw [left_end xs k hkl] at hnr
                have HN9 := Lib.hid hnr
                clear hnr HNr
                go_wp2_with fail
                refine (manyR nb c _ _ _ HN9.out).mono ?_
                rintro e w9 ⟨rfl, rfl⟩
                go_wp2_with fail
                go_ret
                exact ⟨rfl, gb_to_below HGr.out (Nat.le_refl _) (fun k e => by have := Option.some.inj e; omega)⟩
end Go.Proofs.Ytjkgkkopfpkdfaa
