/- DatagramPlays' walk: for every row of calls it comes to true. -/
import Derived.Test.YtjkgkkopfpkdfaaPlays4
set_option linter.unusedVariables false
set_option linter.unusedSimpArgs false
namespace Go.Proofs.Ytjkgkkopfpkdfaa
open Go.RowKit Go.Conc Go.Proofs.YtjkgkkopfpkdfaaW.PrintWords Go.Proofs.YtjkgkkopfpkdfaaW.PrintLast

theorem cells5 {W : World} {g : Nat} {a b c d e : Value} {t : TypeId} (h : W.heap[g]? = some (.cells #[a, b, c, d, e] t (0, 0))) :
    W.cell? ⟨g, 0, none⟩ = some a ∧ W.cell? ⟨g, 1, none⟩ = some b ∧ W.cell? ⟨g, 2, none⟩ = some c ∧ W.cell? ⟨g, 3, none⟩ = some d ∧ W.cell? ⟨g, 4, none⟩ = some e :=
  ⟨by simpa using blk_cell h 0, by simpa using blk_cell h 1, by simpa using blk_cell h 2, by simpa using blk_cell h 3, by simpa using blk_cell h 4⟩

/-- Post, whether there is room or not; the new row is new. -/
theorem postB (f t : Int) (A : Option Addr) (cp : Nat) (l : List Int) (nb c : Nat) (vals : List Value) (L : List Pkt) (w : World) (hn : NetOk w nb c vals L)
    (h : Kd.C (Kd.int .u8) w A l.length l) (hc : l.length ≤ cp) (hl : l.length ≤ 140737488351232) :
    Calls Try.prog 15 #[.pointer (some ⟨nb, 0, none⟩), .agg #[.int .i64 f, .int .i64 t, .slice A l.length cp]] w fun e w' =>
      ∃ vals', e = .returned (.bool (decide (L.length < 256))) ∧ NetOk w' nb c vals' (if L.length < 256 then L ++ [⟨f, t, l⟩] else L) ∧ w.grownBy w' (some c) ∧ ∀ u ∈ vals', ∀ k, pkB u = some k → (∃ u' ∈ vals, pkB u' = some k) ∨ w.heap.size ≤ k := by
  by_cases hv : L.length < 256
  · refine (post_room f t A cp l nb c vals w hn.net h hc hl (by rw [hn.pk.len]; exact hv)).mono ?_
    rintro e w' ⟨v, rfl, h1, h2, h3⟩
    have hlt := hn.net.lt
    have hat : PkAt w' w.heap.size (.agg #[.int .i64 f, .int .i64 t, v]) ⟨f, t, l⟩ := ⟨v, rfl, h2⟩
    refine ⟨_, by simp [hv], ⟨h1, hn.lt, ?_, ?_⟩, h3, ?_⟩
    · rw [if_pos hv]
      refine (hn.pk.grown h3 (by have := hn.lt; omega)).snoc (hat.lower (by omega)) ?_
      intro u hu k hk e
      obtain ⟨i, hi⟩ := List.mem_iff_getElem?.1 hu
      obtain ⟨p, _, hp⟩ := hn.pk.get hi
      have h4 := (hp.block k hk).2
      have h5 := (hat.block k e).1
      omega
    · rw [if_pos hv]
      intro p hp
      rcases List.mem_append.1 hp with hp | hp
      · exact hn.size p hp
      · simp at hp
        subst hp
        exact hl
    · intro u hu k hk
      rcases List.mem_append.1 hu with hu | hu
      · exact .inl ⟨u, hu, hk⟩
      · simp at hu
        subst hu
        exact .inr (hat.block k hk).1
  · refine (postF f t A cp l nb c vals L w hn h hc hl (by omega)).mono ?_
    rintro e w' ⟨rfl, h1, h2⟩
    exact ⟨vals, by simp [hv], by rw [if_neg hv]; exact h1, h2, fun u hu k hk => .inl ⟨u, hu, hk⟩⟩
/-- The net's cell, and what is read behind it. -/
theorem refcell {w : World} {rb : Nat} {L : List Pkt} {A : Option Addr} {c : Nat} (h : RefOk w rb L) (hc : w.cell? ⟨rb, 0, none⟩ = some (.slice A L.length c)) :
    w.cell? ⟨rb, 0, none⟩ = some (.slice A L.length c) ∧ Kd.C kPkt w A L.length L := by
  obtain ⟨v, hb, hR⟩ := h
  obtain ⟨h0, _⟩ := cells1 hb
  rw [hc] at h0
  obtain rfl : Value.slice A L.length c = v := Option.some.inj h0
  exact ⟨hc, (Kd.R_reads' hR).2.2⟩
theorem gb_cell1 {w w' : World} {row : Option Nat} {p : Addr} {v : Value} (hg : w.grownBy w' row) (hc : w.cell? p = some v) (hne : some p.block ≠ row) : w'.cell? p = some v := by
  rw [← hc]
  unfold World.cell?
  rw [hg.block p.block (cell_lt hc) hne]
theorem NetOk.blk {w : World} {nb c : Nat} {vals : List Value} {L : List Pkt} (h : NetOk w nb c vals L) {u : Value} (hu : u ∈ vals) {k : Nat} (hk : pkB u = some k) : nb + 1 ≤ k ∧ k < w.heap.size := by
  obtain ⟨i, hi⟩ := List.mem_iff_getElem?.1 hu
  obtain ⟨p, _, hp⟩ := h.pk.get hi
  exact hp.block k hk

set_option maxRecDepth 100000 in
set_option maxHeartbeats 4000000 in
theorem plays_true (A : Option Addr) (cp : Nat) (xs : List Op) (w : World) (h : Kd.C kOp w A xs.length xs) (hb : ∀ p ∈ xs, p.p.d.length ≤ 140737488351232) (hl : xs.length ≤ 140737488351232) :
    Calls Try.prog 3 #[.slice A xs.length cp] w fun e w' => e = .returned (.bool true) ∧ Below w.heap.size w w' := by
  have HC := Lib.hid h
  clear h
  go_enter Try.func3, Try.ntmps3
  go_wp2_with fail
  refine (head_true _).mono ?_
  rintro e w1 ⟨rfl, hB⟩
  have HB1 := Lib.hid hB
  clear hB
  go_wp2_with fail
  refine (newR w1).mono ?_
  rintro e w2 ⟨nb, c, rfl, n2, hcc, hB⟩
  have hB2 := below_then HB1.out HB1.out.size hB
  have hsz : w.heap.size ≤ c := by have := HB1.out.size; omega
  have hz2 := hB2.size
  have hn2 := n2.net.lt
  have hcn := n2.lt
  have HB2 := Lib.hid hB2
  have HN2 := Lib.hid n2
  clear hB n2 HB1 hB2
  go_wp2_with fail
  generalize hW : w2.alloc (.cells #[.slice none 0 0] 29) = W
  have hBW : Below w2.heap.size w2 W := by rw [← hW]; exact (Below.refl _ _).alloc (Nat.le_refl _) _
  have hbx : W.heap[w2.heap.size]? = some (.cells #[.slice none 0 0] 29 (0, 0)) := by rw [← hW]; exact blk_new _ _
  have HNW := Lib.hid (HN2.out.below hBW)
  have HBW := Lib.hid (below_then HB2.out HB2.out.size hBW)
  have HRW := Lib.hid (show RefOk W w2.heap.size [] from ⟨_, hbx, Kd.R_nil _ _ _ _ _⟩)
  generalize hrb : w2.heap.size = rb
  rw [hrb] at hn2 hz2 HRW
  clear hW hBW hbx HN2 HB2 hrb
  refine (great_any A cp xs W (Kd.C_below HC.out HBW.out) hl).mono ?_
  rintro e w3 ⟨⟨b, rfl⟩, rfl⟩
  cases b
  · go_wp2_with fail
    go_loopw [6] (fun v wr => ∃ (i : Nat) (L : List Pkt) (vals : List Value), i ≤ xs.length ∧ v = .int .i64 i ∧ L.length ≤ 256 ∧ NetOk wr nb c vals L ∧ RefOk wr rb L ∧ Below w.heap.size w wr) (fun v _ => xs.length - (intOf v).toNat)
    case atStart => exact ⟨0, [], [], by omega, rfl, by simp, HNW.out, HRW.out, HBW.out⟩
    case round =>
      obtain ⟨i, L, vals, hi, rfl, hL, hN, hR, hB⟩ := hrel
      have hnr := hN.net.lt
      have hrr : rb < wr.heap.size := by obtain ⟨v, hv, _⟩ := hR; exact blk_lt hv
      have hzr := hB.size
      have HN := Lib.hid hN
      have HR := Lib.hid hR
      have HB := Lib.hid hB
      clear hN hR hB HNW HRW HBW
      by_cases hlt : i < xs.length
      · have d2 : decide ((i : Int) < (xs.length : Int)) = true := decide_eq_true (by omega)
        have hxi : xs[i]? = some xs[i] := List.getElem?_eq_getElem hlt
        have hbd := hb xs[i] (List.getElem_mem hlt)
        obtain ⟨ad, A2, c2, rfl, x0, x1, x2, x3, x4, hc2, hC2⟩ := at_Op HC.out i xs[i] hxi
        replace x0 := pw_cell_below HB.out x0
        replace x1 := pw_cell_below HB.out x1
        replace x2 := pw_cell_below HB.out x2
        replace x3 := pw_cell_below HB.out x3
        replace x4 := pw_cell_below HB.out x4
        have HC2 := Lib.hid hC2
        clear hC2
        generalize hwh : xs[i].what = wh at *
        generalize hpp : xs[i].p = p at *
        generalize hat : xs[i].at_ = at0 at *
        obtain ⟨W5, hW5⟩ : ∃ W5, W5 = wr.alloc (.cells #[.int .i64 wh, .int .i64 p.f, .int .i64 p.t, .slice A2 p.d.length c2, .int .i64 at0] 35) := ⟨_, rfl⟩
        have hB5 : Below wr.heap.size wr W5 := by rw [hW5]; exact (Below.refl _ _).alloc (Nat.le_refl _) _
        have hb5 : W5.heap[wr.heap.size]? = some (.cells #[.int .i64 wh, .int .i64 p.f, .int .i64 p.t, .slice A2 p.d.length c2, .int .i64 at0] 35 (0, 0)) := by rw [hW5]; exact blk_new _ _
        obtain ⟨y0, y1, y2, y3, y4⟩ := cells5 hb5
        have hz5 := hB5.size
        have HN5 := Lib.hid (HN.out.below hB5)
        have HR5 := Lib.hid (HR.out.below hB5)
        have HB5 := Lib.hid (below_then HB.out HB.out.size hB5)
        have HX5 := Lib.hid hb5
        have HC5 := Lib.hid (Kd.C_below HC2.out HB5.out)
        clear hB5 hb5 HN HR HB
        cases h2 : (bits BinOp.and IntKind.i64 wh 3 == 2)
        · cases h3 : (bits BinOp.and IntKind.i64 wh 3 == 3)
          · -- Post
            go_upto_region 11 with (fail)
            rw [← hW5]
            clear hW5
            have hx5 := blk_lt HX5.out
            go_wp2_with (at_builtin; refine print_append_row (w0 := W5) W5.heap.size rfl _ _ 31 5 .u8 1 rfl Try.underlying31 infoU8 (by decide) _ [] p.d _ _ _ rfl rfl ?ho4 ?hr4 ?hb4 ?hs4 ?hl4 ?hk4)
            case ho4 => exact World.ownsRow_made W5 _ 0 (Nat.le_refl _) (by decide) rfl
            case hr4 => exact (Kd.reads_of_C (enc := Value.int .u8) (d := (0 : Int)) (h1 := fun _ => rfl) HC5.out).below ((Below.refl _ _).alloc (Nat.le_refl _) _)
            case hb4 => exact (Below.refl _ _).alloc (Nat.le_refl _) _
            case hs4 => simp
            case hl4 => simp; omega
            intro v1 w1' ho4 hB1 hg4 hat4
            have hR1 : Kd.R (Kd.int .u8) 5 w1' W5.heap.size (fun _ => True) v1 p.d := Kd.R_of_own ho4 (fun _ _ => trivial)
            obtain ⟨A1, c1, rfl⟩ := Kd.R_slice hR1
            have hb1 := blk_below HX5.out hB1
            obtain ⟨z0, z1, z2, z3, z4⟩ := cells5 hb1
            have hx1 := blk_lt hb1
            have hzz := hB1.size
            have HR1 := Lib.hid hR1
            have HN1 := Lib.hid (HN5.out.below hB1)
            have hOB : ∀ k, (Value.slice A1 p.d.length c1).ownBlock = some k → W5.heap.size ≤ k ∧ k < w1'.heap.size := fun k hk => ⟨Kd.R_base hR1 k hk, Kd.R_lt hR1 k hk⟩
            have HOB := Lib.hid hOB
            have hrs : RefOkP (fun k => k < W5.heap.size ∧ k ≠ c) W5 rb L := by
              obtain ⟨vv, hv1, hv2⟩ := HR5.out
              refine ⟨vv, hv1, Kd.R_mono (Kd.R_bound hv2) (fun k hk => ⟨hk.2.2.1, ?_⟩)⟩
              rintro rfl
              obtain ⟨_, _, _, q, _, cells, hcc⟩ := hk
              obtain ⟨s, r, hch⟩ := HN5.out.net.2
              rw [hch] at hcc
              cases hcc
            have HRS := Lib.hid (RefOkP.step hrs (fun k hk _ => hB1.block k hk))
            have HBK := Lib.hid (show ∀ u ∈ vals, ∀ k, pkB u = some k → k < W5.heap.size from fun u hu k hk => (HN5.out.blk hu hk).2)
            have HB1 := Lib.hid (below_then HB5.out HB5.out.size hB1)
            have HC1 := Lib.hid (Kd.C_below HC5.out hB1)
            have HZ1 := Lib.hid hb1
            clear ho4 hB1 hg4 hat4 hR1 hb1 hOB hrs HN5 HR5 HB5 HX5 HC5 y0 y1 y2 y3 y4
            go_wp2_with fail
            refine (postB p.f p.t A1 c1 p.d nb c vals L _ HN1.out (Kd.R_reads' HR1.out).2.2 (Kd.R_reads' HR1.out).2.1 hbd).mono ?_
            rintro e w2' ⟨vals', rfl, n2, g2, ap2⟩
            have hb2 := gb_blk g2 HZ1.out (fun e => by have := Option.some.inj e; omega)
            obtain ⟨t0, t1, t2, t3, t4⟩ := cells5 hb2
            have hx2 := blk_lt hb2
            have hz2' := g2.size
            have HR2 := Lib.hid (Kd.R_mono (ok' := fun _ => True) (Kd.R_grown (Kd.R_bound HR1.out) g2 (fun k hk e => by have := Option.some.inj e; have := hk.2.1; omega)) (fun _ _ => trivial))
            have HRS2 := Lib.hid (RefOkP.mono (RefOkP.step HRS.out (w' := w2') (fun k hk ho => g2.block k hk (fun e => by have := Option.some.inj e; omega))) (ok' := fun k => some k ≠ (Value.slice A1 p.d.length c1).ownBlock) (fun k hk e => by have := (HOB.out k e.symm).1; omega))
            have HAP := Lib.hid (show ∀ u ∈ vals', ∀ k, pkB u = some k → some k ≠ (Value.slice A1 p.d.length c1).ownBlock from fun u hu k hk e => by
              have h1 := HOB.out k e.symm
              rcases ap2 u hu k hk with ⟨u', hu', hk'⟩ | h2
              · have := HBK.out u' hu' k hk'; omega
              · omega)
            have HB2 := Lib.hid (gb_to_below (gb_trans (gb_below HB1.out (some c)) g2) (Nat.le_refl _) (fun k e => by have := Option.some.inj e; omega))
            have HN2 := Lib.hid n2
            have HCP := Lib.hid (Kd.C_below HC2.out HB2.out)
            have hL9 : (if L.length < 256 then L ++ [⟨p.f, p.t, p.d⟩] else L).length ≤ 256 := by split <;> (try simp) <;> omega
            clear n2 g2 ap2 hb2 HR1 HN1 HRS HB1 HC1 HZ1 HBK z0 z1 z2 z3 z4
            go_wp2_with fail
            refine (refPost (fun k => some k ≠ (Value.slice A1 p.d.length c1).ownBlock) p.f p.t A2 c2 p.d rb L _ HRS2.out (fun k hk e => by have := (HOB.out k e.symm).2; omega) HCP.out hc2 hbd hL).mono ?_
            rintro e w3' ⟨rfl, r3, st3⟩
            generalize hL' : (if L.length < 256 then L ++ [⟨p.f, p.t, p.d⟩] else L) = L' at *
            generalize decide (L.length < 256) = bb
            obtain ⟨vr, hvr, _⟩ := HRS2.out
            have hrb2 := blk_lt hvr
            have HN3 := Lib.hid (HN2.out.ref st3 (by omega) (by omega) (fun _ => ⟨vr, hvr⟩))
            have HR3 := Lib.hid (Kd.R_mono (ok' := fun _ => True) (Kd.R_step (Kd.R_bound HR2.out) (fun k hk hlk => st3.block k hlk (by have := hk.2.1; omega) (fun cells hc => by
              obtain ⟨_, _, _, q, hq, cells', hc'⟩ := hk
              rw [hc] at hc'
              injection hc' with hc'
              injection hc' with _ ht
              subst ht
              exact absurd hq (by decide)))) (fun _ _ => trivial))
            have HB3 := Lib.hid (HB2.out.trans (st3.below.mono (by omega)))
            have HRP3 := Lib.hid r3
            have hz3 := st3.size
            clear r3 st3 hvr HN2 HR2 HB2 HRS2 HCP hL' t0 t1 t2 t3 t4
            go_wp2_with fail
            go_loopw [17] (fun v wq => ∃ (kk : Nat) (ys : List Int), kk ≤ p.d.length ∧ v = .int .i64 kk ∧ ys.length = p.d.length ∧ Kd.R (Kd.int .u8) 5 wq W5.heap.size (fun _ => True) (.slice A1 p.d.length c1) ys ∧
              NetOk wq nb c vals' L' ∧ RefOkP (fun k => some k ≠ (Value.slice A1 p.d.length c1).ownBlock) wq rb L' ∧ Below w.heap.size w wq) (fun v _ => p.d.length - (intOf v).toNat)
            case atStart => exact ⟨0, p.d, by omega, rfl, rfl, HR3.out, HN3.out, HRP3.out, HB3.out⟩
            case round =>
              obtain ⟨kk, ys, hkk, rfl, hyl, hR, hN, hRP, hB⟩ := hrel
              clear HR3 HN3 HRP3 HB3
              by_cases hlt2 : kk < p.d.length
              · have d3 : decide ((kk : Int) < (p.d.length : Int)) = true := decide_eq_true (by omega)
                obtain ⟨g, y, rfl, s0, s1, s2, s3, hst⟩ := row_store hR hyl kk hlt2
                have hgz := HOB.out g rfl
                have HR := Lib.hid hR
                have HN := Lib.hid hN
                have HRP := Lib.hid hRP
                have HB := Lib.hid hB
                have HST := Lib.hid hst
                clear hR hN hRP hB hst
                go_wp2_with fail
                have hs : ∀ k, k ≠ g → (wr.setCell ⟨g, kk, none⟩ (.int .u8 ((y + 1) % 256))).heap[k]? = wr.heap[k]? := fun k hk => Below.heap_setCell wr ⟨g, kk, none⟩ _ k hk
                refine ⟨⟨kk + 1, ys.set kk ((y + 1) % 256), by omega, by go_num, by simpa using hyl, HST.out _, ?_, ?_, ?_⟩, by simp [intOf]; omega⟩
                · exact HN.out.step (hs nb (by omega)) (hs c (by omega)) (fun u hu k _ hk _ => hs k (by rintro rfl; exact HAP.out u hu k hk rfl))
                · exact HRP.out.step (fun k hk ho => hs k (by rintro rfl; exact ho.elim (fun h => by omega) (fun h => h rfl)))
                · exact HB.out.setCell (p := ⟨g, kk, none⟩) (by simp only; omega) _
              · have d3 : decide ((kk : Int) < (p.d.length : Int)) = false := decide_eq_false (by omega)
                have HN9 := Lib.hid hN
                have HR9 := Lib.hid hRP.weak
                have HB9 := Lib.hid hB
                clear hR hN hRP hB
                have hbb : (bb == bb) = true := by simp
                have hbn : (bb != bb) = false := by simp
                go_upto_region 30 with (fail)
                obtain ⟨vR, hvR, hRR⟩ := HR9.out
                obtain ⟨AR, cR, rfl⟩ := Kd.R_slice hRR
                obtain ⟨t0, _⟩ := cells1 hvR
                clear hRR hvR
                refine start_ (S := fun w' => w'.cell? ⟨rb, 0, none⟩ = some (.slice AR (L').length cR)) (ds := [7]) (n := 8) #[false, false, false, false, false, false, false, false] rfl rfl rfl ?hS0 (fun hHeld => ?hrun)
                case hS0 => exact t0
                case hrun =>
                  refine pure_ (i := 0) (N := some 118) (v := ?_) (a' := ?_) #[true, false, false, false, false, false, false, false] rfl rfl (by kernel_rfl) (fun _ _ _ h => h) (Or.inl ⟨by rfl, ?_⟩) ?_ ?_
                  rotate_left
                  · intro w'
                    go_simp
                    with_reducible rfl
                  rotate_left
                  · simp only [Act.put, List.setIfInBounds_toArray, List.set_cons_zero, List.set_cons_succ, i64_w, i32_w]
                    rfl
                  refine pure_ (i := 2) (N := some 120) (v := ?_) (a' := ?_) #[true, false, true, false, false, false, false, false] rfl rfl (by kernel_rfl) (fun _ _ _ h => h) (Or.inl ⟨by rfl, ?_⟩) ?_ ?_
                  rotate_left
                  · intro w'
                    go_simp
                    with_reducible rfl
                  rotate_left
                  · simp only [Act.put, List.setIfInBounds_toArray, List.set_cons_zero, List.set_cons_succ, i64_w, i32_w]
                    rfl
                  refine pure_ (i := 3) (N := some 121) (v := ?_) (a' := ?_) #[true, false, true, true, false, false, false, false] rfl rfl (by kernel_rfl) (fun _ _ _ h => h) (Or.inl ⟨by rfl, ?_⟩) ?_ ?_
                  rotate_left
                  · intro w'
                    go_simp
                    with_reducible rfl
                  rotate_left
                  · simp only [Act.put, List.setIfInBounds_toArray, List.set_cons_zero, List.set_cons_succ, i64_w, i32_w]
                    rfl
                  refine pure_ (i := 4) (N := some 122) (v := ?_) (a' := ?_) #[true, false, true, true, true, false, false, false] rfl rfl (by kernel_rfl) (fun _ _ _ h => h) (Or.inl ⟨by rfl, ?_⟩) ?_ ?_
                  rotate_left
                  · intro w'
                    go_simp
                    with_reducible rfl
                  rotate_left
                  · simp only [Act.put, List.setIfInBounds_toArray, List.set_cons_zero, List.set_cons_succ, i64_w, i32_w]
                    rfl
                  refine take_ (i := 5) (N := some 123) (v := ?_) (a' := ?_) #[true, false, true, true, true, true, false, false] rfl rfl (by kernel_rfl) (fun _ _ _ h => h) (Or.inl ⟨by rfl, ?_⟩) hHeld ?_ ?_
                  rotate_left
                  · rintro w' s0
                    go_simp
                    with_reducible rfl
                  rotate_left
                  · simp only [Act.put, List.setIfInBounds_toArray, List.set_cons_zero, List.set_cons_succ, i64_w, i32_w]
                    rfl
                  refine pure_ (i := 6) (N := some 124) (v := ?_) (a' := ?_) #[true, false, true, true, true, true, true, false] rfl rfl (by kernel_rfl) (fun _ _ _ h => h) (Or.inl ⟨by rfl, ?_⟩) ?_ ?_
                  rotate_left
                  · intro w'
                    go_simp
                    with_reducible rfl
                  rotate_left
                  · simp only [Act.put, List.setIfInBounds_toArray, List.set_cons_zero, List.set_cons_succ, i64_w, i32_w]
                    rfl
                  refine one_ (i := 1) (N := some 119) #[true, true, true, true, true, true, true, false] rfl rfl (by kernel_rfl) (by decide) (fun K hK => ?_)
                  refine goes_ Try.func17 (by kernel_rfl) rfl #[.pointer (some ⟨nb, 0, none⟩)] (by rfl) rfl rfl (by (try simp only [List.map_toArray, List.map_cons, List.map_nil]); first | done | rfl) ?_
                  refine (manyR nb c _ _ _ (HN9.out.below ((Below.refl _ _).drew))).mono ?_
                  rintro e w10 ⟨rfl, rfl⟩
                  refine ⟨_, rfl, ?_⟩
                  refine hK.out _ _ t0 (fun hHeld1 => ?_)
                  clear hK K
                  refine norm_ (a' := ?_) ?_ ?_
                  rotate_left
                  · show Act.put _ (some 119) _ = _
                    simp only [Act.put, List.setIfInBounds_toArray, List.set_cons_zero, List.set_cons_succ, i64_w, i32_w]
                    rfl
                  refine tail_list 7 (t := [7]) (fuel := 0) rfl rfl rfl (by kernel_rfl) (by decide) ?_
                  go_wp2_with fail
                  refine ⟨⟨i + 1, L', _, by omega, by go_num, hL9, HN9.out.below ((Below.refl _ _).drew), HR9.out.below ((Below.refl _ _).drew), HB9.out.drew⟩, by simp [intOf]; omega⟩
          · -- Double
            by_cases hin : 0 ≤ at0 ∧ at0 < L.length ∧ L.length < 256
            · obtain ⟨n, rfl⟩ := Int.eq_ofNat_of_zero_le hin.1
              have hnl : n < L.length := by omega
              have hLn : L[n]? = some L[n] := List.getElem?_eq_getElem hnl
              go_wp2_with fail
              rw [← hW5]
              refine (doubleR nb c _ _ n L[n] _ HN5.out (by omega) hLn).mono ?_
              rintro e w7 ⟨v7, rfl, n7, g7⟩
              have hr7 := HR5.out.grown HN5.out g7
              have hb7 := gb_blk g7 HX5.out (fun e => by have := Option.some.inj e; omega)
              obtain ⟨z0, z1, z2, z3, z4⟩ := cells5 hb7
              have hB7 := gb_to_below (gb_trans (gb_below HB5.out (some c)) g7) (Nat.le_refl _) (fun k e => by have := Option.some.inj e; omega)
              have HN7 := Lib.hid n7
              have HR7 := Lib.hid hr7
              have HB7 := Lib.hid hB7
              have hz7 := g7.size
              clear n7 hr7 hB7 g7 hb7 HN5 HR5 HB5 HX5 y0 y1 y2 y3 y4
              go_wp2_with fail
              refine (refDouble_in n L[n] rb L _ HR7.out (by omega) hLn).mono ?_
              rintro e w8 ⟨rfl, r8, g8⟩
              have HN9 := Lib.hid (HN7.out.ref (RefStep.of_gb g8 (by omega)) (by omega) (by omega) (fun _ => by obtain ⟨v, h, _⟩ := HR7.out; exact ⟨v, h⟩))
              have HR9 := Lib.hid r8
              have HB9 := Lib.hid (gb_to_below (gb_trans (gb_below HB7.out (some rb)) g8) (Nat.le_refl _) (fun k e => by have := Option.some.inj e; omega))
              have hL9 : (L ++ [L[n]]).length ≤ 256 := by simp; omega
              clear r8 g8 HN7 HR7 HB7 z0 z1 z2 z3 z4
              go_upto_region 30 with (fail)
              obtain ⟨vR, hvR, hRR⟩ := HR9.out
              obtain ⟨AR, cR, rfl⟩ := Kd.R_slice hRR
              obtain ⟨t0, _⟩ := cells1 hvR
              clear hRR hvR
              refine start_ (S := fun w' => w'.cell? ⟨rb, 0, none⟩ = some (.slice AR ((L ++ [L[n]])).length cR)) (ds := [7]) (n := 8) #[false, false, false, false, false, false, false, false] rfl rfl rfl ?hS0 (fun hHeld => ?hrun)
              case hS0 => exact t0
              case hrun =>
                refine pure_ (i := 0) (N := some 118) (v := ?_) (a' := ?_) #[true, false, false, false, false, false, false, false] rfl rfl (by kernel_rfl) (fun _ _ _ h => h) (Or.inl ⟨by rfl, ?_⟩) ?_ ?_
                rotate_left
                · intro w'
                  go_simp
                  with_reducible rfl
                rotate_left
                · simp only [Act.put, List.setIfInBounds_toArray, List.set_cons_zero, List.set_cons_succ, i64_w, i32_w]
                  rfl
                refine pure_ (i := 2) (N := some 120) (v := ?_) (a' := ?_) #[true, false, true, false, false, false, false, false] rfl rfl (by kernel_rfl) (fun _ _ _ h => h) (Or.inl ⟨by rfl, ?_⟩) ?_ ?_
                rotate_left
                · intro w'
                  go_simp
                  with_reducible rfl
                rotate_left
                · simp only [Act.put, List.setIfInBounds_toArray, List.set_cons_zero, List.set_cons_succ, i64_w, i32_w]
                  rfl
                refine pure_ (i := 3) (N := some 121) (v := ?_) (a' := ?_) #[true, false, true, true, false, false, false, false] rfl rfl (by kernel_rfl) (fun _ _ _ h => h) (Or.inl ⟨by rfl, ?_⟩) ?_ ?_
                rotate_left
                · intro w'
                  go_simp
                  with_reducible rfl
                rotate_left
                · simp only [Act.put, List.setIfInBounds_toArray, List.set_cons_zero, List.set_cons_succ, i64_w, i32_w]
                  rfl
                refine pure_ (i := 4) (N := some 122) (v := ?_) (a' := ?_) #[true, false, true, true, true, false, false, false] rfl rfl (by kernel_rfl) (fun _ _ _ h => h) (Or.inl ⟨by rfl, ?_⟩) ?_ ?_
                rotate_left
                · intro w'
                  go_simp
                  with_reducible rfl
                rotate_left
                · simp only [Act.put, List.setIfInBounds_toArray, List.set_cons_zero, List.set_cons_succ, i64_w, i32_w]
                  rfl
                refine take_ (i := 5) (N := some 123) (v := ?_) (a' := ?_) #[true, false, true, true, true, true, false, false] rfl rfl (by kernel_rfl) (fun _ _ _ h => h) (Or.inl ⟨by rfl, ?_⟩) hHeld ?_ ?_
                rotate_left
                · rintro w' s0
                  go_simp
                  with_reducible rfl
                rotate_left
                · simp only [Act.put, List.setIfInBounds_toArray, List.set_cons_zero, List.set_cons_succ, i64_w, i32_w]
                  rfl
                refine pure_ (i := 6) (N := some 124) (v := ?_) (a' := ?_) #[true, false, true, true, true, true, true, false] rfl rfl (by kernel_rfl) (fun _ _ _ h => h) (Or.inl ⟨by rfl, ?_⟩) ?_ ?_
                rotate_left
                · intro w'
                  go_simp
                  with_reducible rfl
                rotate_left
                · simp only [Act.put, List.setIfInBounds_toArray, List.set_cons_zero, List.set_cons_succ, i64_w, i32_w]
                  rfl
                refine one_ (i := 1) (N := some 119) #[true, true, true, true, true, true, true, false] rfl rfl (by kernel_rfl) (by decide) (fun K hK => ?_)
                refine goes_ Try.func17 (by kernel_rfl) rfl #[.pointer (some ⟨nb, 0, none⟩)] (by rfl) rfl rfl (by (try simp only [List.map_toArray, List.map_cons, List.map_nil]); first | done | rfl) ?_
                refine (manyR nb c _ _ _ (HN9.out.below ((Below.refl _ _).drew))).mono ?_
                rintro e w10 ⟨rfl, rfl⟩
                refine ⟨_, rfl, ?_⟩
                refine hK.out _ _ t0 (fun hHeld1 => ?_)
                clear hK K
                refine norm_ (a' := ?_) ?_ ?_
                rotate_left
                · show Act.put _ (some 119) _ = _
                  simp only [Act.put, List.setIfInBounds_toArray, List.set_cons_zero, List.set_cons_succ, i64_w, i32_w]
                  rfl
                refine tail_list 7 (t := [7]) (fuel := 0) rfl rfl rfl (by kernel_rfl) (by decide) ?_
                go_wp2_with fail
                refine ⟨⟨i + 1, (L ++ [L[n]]), _, by omega, by go_num, hL9, HN9.out.below ((Below.refl _ _).drew), HR9.out.below ((Below.refl _ _).drew), HB9.out.drew⟩, by simp [intOf]; omega⟩
            · go_wp2_with fail
              rw [← hW5]
              refine (doubleF nb c _ _ at0 _ HN5.out hL hin).mono ?_
              rintro e w7 ⟨rfl, n7, g7⟩
              have hr7 := HR5.out.grown HN5.out g7
              have hb7 := gb_blk g7 HX5.out (fun e => by have := Option.some.inj e; omega)
              obtain ⟨z0, z1, z2, z3, z4⟩ := cells5 hb7
              have hB7 := gb_to_below (gb_trans (gb_below HB5.out (some c)) g7) (Nat.le_refl _) (fun k e => by have := Option.some.inj e; omega)
              have HN9 := Lib.hid n7
              have HR9 := Lib.hid hr7
              have HB9 := Lib.hid hB7
              have hz7 := g7.size
              clear n7 hr7 hB7 g7 hb7 HN5 HR5 HB5 HX5 y0 y1 y2 y3 y4
              go_wp2_with fail
              refine (refDouble_out at0 rb L _ HR9.out hin).mono ?_
              rintro e w8 ⟨rfl, rfl⟩
              have hL9 := hL
              go_upto_region 30 with (fail)
              obtain ⟨vR, hvR, hRR⟩ := HR9.out
              obtain ⟨AR, cR, rfl⟩ := Kd.R_slice hRR
              obtain ⟨t0, _⟩ := cells1 hvR
              clear hRR hvR
              refine start_ (S := fun w' => w'.cell? ⟨rb, 0, none⟩ = some (.slice AR (L).length cR)) (ds := [7]) (n := 8) #[false, false, false, false, false, false, false, false] rfl rfl rfl ?hS0 (fun hHeld => ?hrun)
              case hS0 => exact t0
              case hrun =>
                refine pure_ (i := 0) (N := some 118) (v := ?_) (a' := ?_) #[true, false, false, false, false, false, false, false] rfl rfl (by kernel_rfl) (fun _ _ _ h => h) (Or.inl ⟨by rfl, ?_⟩) ?_ ?_
                rotate_left
                · intro w'
                  go_simp
                  with_reducible rfl
                rotate_left
                · simp only [Act.put, List.setIfInBounds_toArray, List.set_cons_zero, List.set_cons_succ, i64_w, i32_w]
                  rfl
                refine pure_ (i := 2) (N := some 120) (v := ?_) (a' := ?_) #[true, false, true, false, false, false, false, false] rfl rfl (by kernel_rfl) (fun _ _ _ h => h) (Or.inl ⟨by rfl, ?_⟩) ?_ ?_
                rotate_left
                · intro w'
                  go_simp
                  with_reducible rfl
                rotate_left
                · simp only [Act.put, List.setIfInBounds_toArray, List.set_cons_zero, List.set_cons_succ, i64_w, i32_w]
                  rfl
                refine pure_ (i := 3) (N := some 121) (v := ?_) (a' := ?_) #[true, false, true, true, false, false, false, false] rfl rfl (by kernel_rfl) (fun _ _ _ h => h) (Or.inl ⟨by rfl, ?_⟩) ?_ ?_
                rotate_left
                · intro w'
                  go_simp
                  with_reducible rfl
                rotate_left
                · simp only [Act.put, List.setIfInBounds_toArray, List.set_cons_zero, List.set_cons_succ, i64_w, i32_w]
                  rfl
                refine pure_ (i := 4) (N := some 122) (v := ?_) (a' := ?_) #[true, false, true, true, true, false, false, false] rfl rfl (by kernel_rfl) (fun _ _ _ h => h) (Or.inl ⟨by rfl, ?_⟩) ?_ ?_
                rotate_left
                · intro w'
                  go_simp
                  with_reducible rfl
                rotate_left
                · simp only [Act.put, List.setIfInBounds_toArray, List.set_cons_zero, List.set_cons_succ, i64_w, i32_w]
                  rfl
                refine take_ (i := 5) (N := some 123) (v := ?_) (a' := ?_) #[true, false, true, true, true, true, false, false] rfl rfl (by kernel_rfl) (fun _ _ _ h => h) (Or.inl ⟨by rfl, ?_⟩) hHeld ?_ ?_
                rotate_left
                · rintro w' s0
                  go_simp
                  with_reducible rfl
                rotate_left
                · simp only [Act.put, List.setIfInBounds_toArray, List.set_cons_zero, List.set_cons_succ, i64_w, i32_w]
                  rfl
                refine pure_ (i := 6) (N := some 124) (v := ?_) (a' := ?_) #[true, false, true, true, true, true, true, false] rfl rfl (by kernel_rfl) (fun _ _ _ h => h) (Or.inl ⟨by rfl, ?_⟩) ?_ ?_
                rotate_left
                · intro w'
                  go_simp
                  with_reducible rfl
                rotate_left
                · simp only [Act.put, List.setIfInBounds_toArray, List.set_cons_zero, List.set_cons_succ, i64_w, i32_w]
                  rfl
                refine one_ (i := 1) (N := some 119) #[true, true, true, true, true, true, true, false] rfl rfl (by kernel_rfl) (by decide) (fun K hK => ?_)
                refine goes_ Try.func17 (by kernel_rfl) rfl #[.pointer (some ⟨nb, 0, none⟩)] (by rfl) rfl rfl (by (try simp only [List.map_toArray, List.map_cons, List.map_nil]); first | done | rfl) ?_
                refine (manyR nb c _ _ _ (HN9.out.below ((Below.refl _ _).drew))).mono ?_
                rintro e w10 ⟨rfl, rfl⟩
                refine ⟨_, rfl, ?_⟩
                refine hK.out _ _ t0 (fun hHeld1 => ?_)
                clear hK K
                refine norm_ (a' := ?_) ?_ ?_
                rotate_left
                · show Act.put _ (some 119) _ = _
                  simp only [Act.put, List.setIfInBounds_toArray, List.set_cons_zero, List.set_cons_succ, i64_w, i32_w]
                  rfl
                refine tail_list 7 (t := [7]) (fuel := 0) rfl rfl rfl (by kernel_rfl) (by decide) ?_
                go_wp2_with fail
                refine ⟨⟨i + 1, L, _, by omega, by go_num, hL9, HN9.out.below ((Below.refl _ _).drew), HR9.out.below ((Below.refl _ _).drew), HB9.out.drew⟩, by simp [intOf]; omega⟩
        · -- Take
          by_cases hin : 0 ≤ at0 ∧ at0 < L.length
          · obtain ⟨n, rfl⟩ := Int.eq_ofNat_of_zero_le hin.1
            have hnl : n < L.length := by omega
            have hLn : L[n]? = some L[n] := List.getElem?_eq_getElem hnl
            have hle := List.length_eraseIdx_le L n
            generalize hq : L[n] = q at *
            go_wp2_with fail
            rw [← hW5]
            refine (takeR nb c _ _ n q _ HN5.out hL hLn).mono ?_
            rintro e w6 ⟨A6, c6, rfl, n6, pk6, hc6, C6, ap6, g6⟩
            have hr6 := HR5.out.grown HN5.out g6
            have hb6 := gb_blk g6 HX5.out (fun e => by have := Option.some.inj e; omega)
            obtain ⟨z0, z1, z2, z3, z4⟩ := cells5 hb6
            have hx6 := blk_lt hb6
            have hB6 := gb_to_below (gb_trans (gb_below HB5.out (some c)) g6) (Nat.le_refl _) (fun k e => by have := Option.some.inj e; omega)
            have hz6 := g6.size
            obtain ⟨W7, hW7⟩ : ∃ W7, W7 = w6.alloc (.cells #[.int .i64 q.f, .int .i64 q.t, .slice A6 q.d.length c6] 33) := ⟨_, rfl⟩
            have hB7 : Below w6.heap.size w6 W7 := by rw [hW7]; exact (Below.refl _ _).alloc (Nat.le_refl _) _
            have hb7 : W7.heap[w6.heap.size]? = some (.cells #[.int .i64 q.f, .int .i64 q.t, .slice A6 q.d.length c6] 33 (0, 0)) := by rw [hW7]; exact blk_new _ _
            have hR6 : Kd.R (Kd.int .u8) 5 w6 (nb + 1) (fun _ => True) (.slice A6 q.d.length c6) q.d := by
              obtain ⟨sv, he, hr⟩ := pk6
              obtain rfl : Value.slice A6 q.d.length c6 = sv := by injection he with he; injection he with he; injection he with _ he; injection he with _ he; injection he with he
              exact hr
            obtain ⟨vr, hvr, _⟩ := id hr6
            have HP7 := Lib.hid (Kd.R_below (Kd.R_mono (ok' := fun k => k ≠ rb) (Kd.R_types hR6 hvr (by decide)) (fun k hk => hk.2)) hB7)
            have HN7 := Lib.hid (n6.below hB7)
            have HR7 := Lib.hid (hr6.below hB7)
            have HB7 := Lib.hid (below_then hB6 hB6.size hB7)
            have HX7 := Lib.hid hb7
            have hz7 := hB7.size
            have hx7 : w6.heap.size < W7.heap.size := blk_lt hb7
            clear n6 pk6 C6 ap6 g6 hr6 hb6 hB6 hB7 hb7 hR6 hvr HN5 HR5 HB5 HX5 y0 y1 y2 y3 y4
            go_wp2_with fail
            rw [← hW7]
            refine (refTake_in n q rb L _ HR7.out hL hLn).mono ?_
            rintro e w8 ⟨A8, c8, rfl, r8, C8, g8⟩
            have hb8 := gb_blk g8 HX7.out (fun e => by have := Option.some.inj e; omega)
            obtain ⟨q0, q1, q2, _⟩ := cells3 hb8
            have hx8 := blk_lt hb8
            have HP8 := Lib.hid (Kd.R_reads' (Kd.R_grown HP7.out g8 (fun k hk e => hk (Option.some.inj e)))).2.2
            have HN8 := Lib.hid (HN7.out.ref (RefStep.of_gb g8 (by omega)) (by omega) (by omega) (fun _ => by obtain ⟨v, h, _⟩ := HR7.out; exact ⟨v, h⟩))
            have HR8 := Lib.hid r8
            have HC8 := Lib.hid C8
            have HB8 := Lib.hid (gb_to_below (gb_trans (gb_below HB7.out (some rb)) g8) (Nat.le_refl _) (fun k e => by have := Option.some.inj e; omega))
            have hz8 := g8.size
            have hL9 : (L.eraseIdx n).length ≤ 256 := by omega
            clear r8 C8 g8 hb8 HN7 HR7 HB7 HX7 HP7 z0 z1 z2 z3 z4
            go_wp2_with fail
            have hb9 : Below w8.heap.size w8 (w8.alloc (.cells #[.int .i64 q.f, .int .i64 q.t, .slice A8 q.d.length c8] 33)) := (Below.refl _ _).alloc (Nat.le_refl _) _
            refine (same_true q A6 A8 c6 c8 _ (Kd.C_below HP8.out hb9) (Kd.C_below HC8.out hb9)).mono ?_
            rintro e w9 ⟨rfl, hB9⟩
            have hb89 := below_then hb9 (by simp) hB9
            have HN9 := Lib.hid (HN8.out.below hb89)
            have HR9 := Lib.hid (HR8.out.below hb89)
            have HB9 := Lib.hid (below_then HB8.out HB8.out.size hb89)
            have hz9 := hb89.size
            clear hB9 hb9 hb89 HN8 HR8 HB8 HP8 HC8 q0 q1 q2
            go_upto_region 30 with (fail)
            obtain ⟨vR, hvR, hRR⟩ := HR9.out
            obtain ⟨AR, cR, rfl⟩ := Kd.R_slice hRR
            obtain ⟨t0, _⟩ := cells1 hvR
            clear hRR hvR
            refine start_ (S := fun w' => w'.cell? ⟨rb, 0, none⟩ = some (.slice AR ((L.eraseIdx n)).length cR)) (ds := [7]) (n := 8) #[false, false, false, false, false, false, false, false] rfl rfl rfl ?hS0 (fun hHeld => ?hrun)
            case hS0 => exact t0
            case hrun =>
              refine pure_ (i := 0) (N := some 118) (v := ?_) (a' := ?_) #[true, false, false, false, false, false, false, false] rfl rfl (by kernel_rfl) (fun _ _ _ h => h) (Or.inl ⟨by rfl, ?_⟩) ?_ ?_
              rotate_left
              · intro w'
                go_simp
                with_reducible rfl
              rotate_left
              · simp only [Act.put, List.setIfInBounds_toArray, List.set_cons_zero, List.set_cons_succ, i64_w, i32_w]
                rfl
              refine pure_ (i := 2) (N := some 120) (v := ?_) (a' := ?_) #[true, false, true, false, false, false, false, false] rfl rfl (by kernel_rfl) (fun _ _ _ h => h) (Or.inl ⟨by rfl, ?_⟩) ?_ ?_
              rotate_left
              · intro w'
                go_simp
                with_reducible rfl
              rotate_left
              · simp only [Act.put, List.setIfInBounds_toArray, List.set_cons_zero, List.set_cons_succ, i64_w, i32_w]
                rfl
              refine pure_ (i := 3) (N := some 121) (v := ?_) (a' := ?_) #[true, false, true, true, false, false, false, false] rfl rfl (by kernel_rfl) (fun _ _ _ h => h) (Or.inl ⟨by rfl, ?_⟩) ?_ ?_
              rotate_left
              · intro w'
                go_simp
                with_reducible rfl
              rotate_left
              · simp only [Act.put, List.setIfInBounds_toArray, List.set_cons_zero, List.set_cons_succ, i64_w, i32_w]
                rfl
              refine pure_ (i := 4) (N := some 122) (v := ?_) (a' := ?_) #[true, false, true, true, true, false, false, false] rfl rfl (by kernel_rfl) (fun _ _ _ h => h) (Or.inl ⟨by rfl, ?_⟩) ?_ ?_
              rotate_left
              · intro w'
                go_simp
                with_reducible rfl
              rotate_left
              · simp only [Act.put, List.setIfInBounds_toArray, List.set_cons_zero, List.set_cons_succ, i64_w, i32_w]
                rfl
              refine take_ (i := 5) (N := some 123) (v := ?_) (a' := ?_) #[true, false, true, true, true, true, false, false] rfl rfl (by kernel_rfl) (fun _ _ _ h => h) (Or.inl ⟨by rfl, ?_⟩) hHeld ?_ ?_
              rotate_left
              · rintro w' s0
                go_simp
                with_reducible rfl
              rotate_left
              · simp only [Act.put, List.setIfInBounds_toArray, List.set_cons_zero, List.set_cons_succ, i64_w, i32_w]
                rfl
              refine pure_ (i := 6) (N := some 124) (v := ?_) (a' := ?_) #[true, false, true, true, true, true, true, false] rfl rfl (by kernel_rfl) (fun _ _ _ h => h) (Or.inl ⟨by rfl, ?_⟩) ?_ ?_
              rotate_left
              · intro w'
                go_simp
                with_reducible rfl
              rotate_left
              · simp only [Act.put, List.setIfInBounds_toArray, List.set_cons_zero, List.set_cons_succ, i64_w, i32_w]
                rfl
              refine one_ (i := 1) (N := some 119) #[true, true, true, true, true, true, true, false] rfl rfl (by kernel_rfl) (by decide) (fun K hK => ?_)
              refine goes_ Try.func17 (by kernel_rfl) rfl #[.pointer (some ⟨nb, 0, none⟩)] (by rfl) rfl rfl (by (try simp only [List.map_toArray, List.map_cons, List.map_nil]); first | done | rfl) ?_
              refine (manyR nb c _ _ _ (HN9.out.below ((Below.refl _ _).drew))).mono ?_
              rintro e w10 ⟨rfl, rfl⟩
              refine ⟨_, rfl, ?_⟩
              refine hK.out _ _ t0 (fun hHeld1 => ?_)
              clear hK K
              refine norm_ (a' := ?_) ?_ ?_
              rotate_left
              · show Act.put _ (some 119) _ = _
                simp only [Act.put, List.setIfInBounds_toArray, List.set_cons_zero, List.set_cons_succ, i64_w, i32_w]
                rfl
              refine tail_list 7 (t := [7]) (fuel := 0) rfl rfl rfl (by kernel_rfl) (by decide) ?_
              go_wp2_with fail
              refine ⟨⟨i + 1, (L.eraseIdx n), _, by omega, by go_num, hL9, HN9.out.below ((Below.refl _ _).drew), HR9.out.below ((Below.refl _ _).drew), HB9.out.drew⟩, by simp [intOf]; omega⟩
          · go_wp2_with fail
            rw [← hW5]
            refine (takeN nb c _ _ at0 _ HN5.out hin).mono ?_
            rintro e w6 ⟨rfl, n6, g6⟩
            have hr6 := HR5.out.grown HN5.out g6
            have hb6 := gb_blk g6 HX5.out (fun e => by have := Option.some.inj e; omega)
            obtain ⟨z0, z1, z2, z3, z4⟩ := cells5 hb6
            have hx6 := blk_lt hb6
            have hB6 := gb_to_below (gb_trans (gb_below HB5.out (some c)) g6) (Nat.le_refl _) (fun k e => by have := Option.some.inj e; omega)
            have hz6 := g6.size
            obtain ⟨W7, hW7⟩ : ∃ W7, W7 = w6.alloc (.cells #[.int .i64 0, .int .i64 0, .slice none 0 0] 33) := ⟨_, rfl⟩
            have hB7 : Below w6.heap.size w6 W7 := by rw [hW7]; exact (Below.refl _ _).alloc (Nat.le_refl _) _
            have hb7 : W7.heap[w6.heap.size]? = some (.cells #[.int .i64 0, .int .i64 0, .slice none 0 0] 33 (0, 0)) := by rw [hW7]; exact blk_new _ _
            have HN7 := Lib.hid (n6.below hB7)
            have HR7 := Lib.hid (hr6.below hB7)
            have HB7 := Lib.hid (below_then hB6 hB6.size hB7)
            have HX7 := Lib.hid hb7
            have hz7 := hB7.size
            have hx7 : w6.heap.size < W7.heap.size := blk_lt hb7
            clear n6 g6 hr6 hb6 hB6 hB7 hb7 HN5 HR5 HB5 HX5 y0 y1 y2 y3 y4
            go_wp2_with fail
            rw [← hW7]
            refine (refTake_out at0 rb L _ HR7.out hin).mono ?_
            rintro e w8 ⟨rfl, b8⟩
            have hb8 := blk_below HX7.out b8
            obtain ⟨q0, q1, q2, _⟩ := cells3 hb8
            have hx8 := blk_lt hb8
            have HN8 := Lib.hid (HN7.out.below b8)
            have HR8 := Lib.hid (HR7.out.below b8)
            have HB8 := Lib.hid (below_then HB7.out HB7.out.size b8)
            have hz8 := b8.size
            have hL9 := hL
            clear b8 hb8 HN7 HR7 HB7 HX7 z0 z1 z2 z3 z4
            go_wp2_with fail
            have hb9 : Below w8.heap.size w8 (w8.alloc (.cells #[.int .i64 0, .int .i64 0, .slice none 0 0] 33)) := (Below.refl _ _).alloc (Nat.le_refl _) _
            refine (same_true ⟨0, 0, []⟩ none none 0 0 _ (nil_C _) (nil_C _)).mono ?_
            rintro e w9 ⟨rfl, hB9⟩
            have hb89 := below_then hb9 (by simp) hB9
            have HN9 := Lib.hid (HN8.out.below hb89)
            have HR9 := Lib.hid (HR8.out.below hb89)
            have HB9 := Lib.hid (below_then HB8.out HB8.out.size hb89)
            have hz9 := hb89.size
            clear hB9 hb9 hb89 HN8 HR8 HB8 q0 q1 q2
            go_upto_region 30 with (fail)
            obtain ⟨vR, hvR, hRR⟩ := HR9.out
            obtain ⟨AR, cR, rfl⟩ := Kd.R_slice hRR
            obtain ⟨t0, _⟩ := cells1 hvR
            clear hRR hvR
            refine start_ (S := fun w' => w'.cell? ⟨rb, 0, none⟩ = some (.slice AR (L).length cR)) (ds := [7]) (n := 8) #[false, false, false, false, false, false, false, false] rfl rfl rfl ?hS0 (fun hHeld => ?hrun)
            case hS0 => exact t0
            case hrun =>
              refine pure_ (i := 0) (N := some 118) (v := ?_) (a' := ?_) #[true, false, false, false, false, false, false, false] rfl rfl (by kernel_rfl) (fun _ _ _ h => h) (Or.inl ⟨by rfl, ?_⟩) ?_ ?_
              rotate_left
              · intro w'
                go_simp
                with_reducible rfl
              rotate_left
              · simp only [Act.put, List.setIfInBounds_toArray, List.set_cons_zero, List.set_cons_succ, i64_w, i32_w]
                rfl
              refine pure_ (i := 2) (N := some 120) (v := ?_) (a' := ?_) #[true, false, true, false, false, false, false, false] rfl rfl (by kernel_rfl) (fun _ _ _ h => h) (Or.inl ⟨by rfl, ?_⟩) ?_ ?_
              rotate_left
              · intro w'
                go_simp
                with_reducible rfl
              rotate_left
              · simp only [Act.put, List.setIfInBounds_toArray, List.set_cons_zero, List.set_cons_succ, i64_w, i32_w]
                rfl
              refine pure_ (i := 3) (N := some 121) (v := ?_) (a' := ?_) #[true, false, true, true, false, false, false, false] rfl rfl (by kernel_rfl) (fun _ _ _ h => h) (Or.inl ⟨by rfl, ?_⟩) ?_ ?_
              rotate_left
              · intro w'
                go_simp
                with_reducible rfl
              rotate_left
              · simp only [Act.put, List.setIfInBounds_toArray, List.set_cons_zero, List.set_cons_succ, i64_w, i32_w]
                rfl
              refine pure_ (i := 4) (N := some 122) (v := ?_) (a' := ?_) #[true, false, true, true, true, false, false, false] rfl rfl (by kernel_rfl) (fun _ _ _ h => h) (Or.inl ⟨by rfl, ?_⟩) ?_ ?_
              rotate_left
              · intro w'
                go_simp
                with_reducible rfl
              rotate_left
              · simp only [Act.put, List.setIfInBounds_toArray, List.set_cons_zero, List.set_cons_succ, i64_w, i32_w]
                rfl
              refine take_ (i := 5) (N := some 123) (v := ?_) (a' := ?_) #[true, false, true, true, true, true, false, false] rfl rfl (by kernel_rfl) (fun _ _ _ h => h) (Or.inl ⟨by rfl, ?_⟩) hHeld ?_ ?_
              rotate_left
              · rintro w' s0
                go_simp
                with_reducible rfl
              rotate_left
              · simp only [Act.put, List.setIfInBounds_toArray, List.set_cons_zero, List.set_cons_succ, i64_w, i32_w]
                rfl
              refine pure_ (i := 6) (N := some 124) (v := ?_) (a' := ?_) #[true, false, true, true, true, true, true, false] rfl rfl (by kernel_rfl) (fun _ _ _ h => h) (Or.inl ⟨by rfl, ?_⟩) ?_ ?_
              rotate_left
              · intro w'
                go_simp
                with_reducible rfl
              rotate_left
              · simp only [Act.put, List.setIfInBounds_toArray, List.set_cons_zero, List.set_cons_succ, i64_w, i32_w]
                rfl
              refine one_ (i := 1) (N := some 119) #[true, true, true, true, true, true, true, false] rfl rfl (by kernel_rfl) (by decide) (fun K hK => ?_)
              refine goes_ Try.func17 (by kernel_rfl) rfl #[.pointer (some ⟨nb, 0, none⟩)] (by rfl) rfl rfl (by (try simp only [List.map_toArray, List.map_cons, List.map_nil]); first | done | rfl) ?_
              refine (manyR nb c _ _ _ (HN9.out.below ((Below.refl _ _).drew))).mono ?_
              rintro e w10 ⟨rfl, rfl⟩
              refine ⟨_, rfl, ?_⟩
              refine hK.out _ _ t0 (fun hHeld1 => ?_)
              clear hK K
              refine norm_ (a' := ?_) ?_ ?_
              rotate_left
              · show Act.put _ (some 119) _ = _
                simp only [Act.put, List.setIfInBounds_toArray, List.set_cons_zero, List.set_cons_succ, i64_w, i32_w]
                rfl
              refine tail_list 7 (t := [7]) (fuel := 0) rfl rfl rfl (by kernel_rfl) (by decide) ?_
              go_wp2_with fail
              refine ⟨⟨i + 1, L, _, by omega, by go_num, hL9, HN9.out.below ((Below.refl _ _).drew), HR9.out.below ((Below.refl _ _).drew), HB9.out.drew⟩, by simp [intOf]; omega⟩
      · obtain rfl : i = xs.length := by omega
        have d2 : decide ((xs.length : Int) < (xs.length : Int)) = false := decide_eq_false (by omega)
        go_upto_region 32 with (fail)
        obtain ⟨vR, hvR, hRR⟩ := HR.out
        obtain ⟨AR, cR, rfl⟩ := Kd.R_slice hRR
        obtain ⟨t0, _⟩ := cells1 hvR
        clear hRR hvR
        refine start_ (S := fun w' => w'.cell? ⟨rb, 0, none⟩ = some (.slice AR L.length cR)) (ds := [18, 19]) (n := 20) #[false, false, false, false, false, false, false, false, false, false, false, false, false, false, false, false, false, false, false, false] rfl rfl rfl ?hS0 (fun hHeld => ?hrun)
        case hS0 => exact t0
        case hrun =>
          refine pure_ (i := 0) (N := some 126) (v := ?_) (a' := ?_) #[true, false, false, false, false, false, false, false, false, false, false, false, false, false, false, false, false, false, false, false] rfl rfl (by kernel_rfl) (fun _ _ _ h => h) (Or.inl ⟨by rfl, ?_⟩) ?_ ?_
          rotate_left
          · intro w'
            go_simp
            with_reducible rfl
          rotate_left
          · simp only [Act.put, List.setIfInBounds_toArray, List.set_cons_zero, List.set_cons_succ, i64_w, i32_w]
            rfl
          refine pure_ (i := 1) (N := some 127) (v := ?_) (a' := ?_) #[true, true, false, false, false, false, false, false, false, false, false, false, false, false, false, false, false, false, false, false] rfl rfl (by kernel_rfl) (fun _ _ _ h => h) (Or.inl ⟨by rfl, ?_⟩) ?_ ?_
          rotate_left
          · intro w'
            go_simp
            with_reducible rfl
          rotate_left
          · simp only [Act.put, List.setIfInBounds_toArray, List.set_cons_zero, List.set_cons_succ, i64_w, i32_w]
            rfl
          refine pure_ (i := 2) (N := some 128) (v := ?_) (a' := ?_) #[true, true, true, false, false, false, false, false, false, false, false, false, false, false, false, false, false, false, false, false] rfl rfl (by kernel_rfl) (fun _ _ _ h => h) (Or.inl ⟨by rfl, ?_⟩) ?_ ?_
          rotate_left
          · intro w'
            go_simp
            with_reducible rfl
          rotate_left
          · simp only [Act.put, List.setIfInBounds_toArray, List.set_cons_zero, List.set_cons_succ, i64_w, i32_w]
            rfl
          refine pure_ (i := 4) (N := some 130) (v := ?_) (a' := ?_) #[true, true, true, false, true, false, false, false, false, false, false, false, false, false, false, false, false, false, false, false] rfl rfl (by kernel_rfl) (fun _ _ _ h => h) (Or.inl ⟨by rfl, ?_⟩) ?_ ?_
          rotate_left
          · intro w'
            go_simp
            with_reducible rfl
          rotate_left
          · simp only [Act.put, List.setIfInBounds_toArray, List.set_cons_zero, List.set_cons_succ, i64_w, i32_w]
            rfl
          refine pure_ (i := 5) (N := some 131) (v := ?_) (a' := ?_) #[true, true, true, false, true, true, false, false, false, false, false, false, false, false, false, false, false, false, false, false] rfl rfl (by kernel_rfl) (fun _ _ _ h => h) (Or.inl ⟨by rfl, ?_⟩) ?_ ?_
          rotate_left
          · intro w'
            go_simp
            with_reducible rfl
          rotate_left
          · simp only [Act.put, List.setIfInBounds_toArray, List.set_cons_zero, List.set_cons_succ, i64_w, i32_w]
            rfl
          refine pure_ (i := 6) (N := some 132) (v := ?_) (a' := ?_) #[true, true, true, false, true, true, true, false, false, false, false, false, false, false, false, false, false, false, false, false] rfl rfl (by kernel_rfl) (fun _ _ _ h => h) (Or.inl ⟨by rfl, ?_⟩) ?_ ?_
          rotate_left
          · intro w'
            go_simp
            with_reducible rfl
          rotate_left
          · simp only [Act.put, List.setIfInBounds_toArray, List.set_cons_zero, List.set_cons_succ, i64_w, i32_w]
            rfl
          refine take_ (i := 7) (N := some 133) (v := ?_) (a' := ?_) #[true, true, true, false, true, true, true, true, false, false, false, false, false, false, false, false, false, false, false, false] rfl rfl (by kernel_rfl) (fun _ _ _ h => h) (Or.inl ⟨by rfl, ?_⟩) hHeld ?_ ?_
          rotate_left
          · rintro w' s0
            go_simp
            with_reducible rfl
          rotate_left
          · simp only [Act.put, List.setIfInBounds_toArray, List.set_cons_zero, List.set_cons_succ, i64_w, i32_w]
            rfl
          refine one_ (i := 3) (N := some 129) #[true, true, true, true, true, true, true, true, false, false, false, false, false, false, false, false, false, false, false, false] rfl rfl (by kernel_rfl) (by decide) (fun K hK => ?_)
          refine goes_ Try.func19 (by kernel_rfl) rfl #[.pointer (some ⟨nb, 0, none⟩)] (by rfl) rfl rfl (by (try simp only [List.map_toArray, List.map_cons, List.map_nil]); first | done | rfl) ?_
          refine (allR nb c _ _ _ (HN.out.below ((Below.refl _ _).drew)) hL).mono ?_
          rintro e w10 ⟨v10, rfl, r10, n10, g10⟩
          have hr10 := (HR.out.below (Below.refl _ _).drew).grown (HN.out.below ((Below.refl _ _).drew)) g10
          have hz10 := g10.size
          simp at hz10
          have t10 := refcell hr10 (gb_cell1 g10 (show (wr.drew).cell? ⟨rb, 0, none⟩ = some (.slice AR L.length cR) from t0) (fun e => by have h := Option.some.inj e; simp only at h; omega))
          have HB10 := Lib.hid (gb_to_below (gb_trans (gb_below (HB.out.drew) (some c)) g10) (Nat.le_refl _) (fun k e => by have := Option.some.inj e; omega))
          have HN10 := Lib.hid n10
          have HR10 := Lib.hid hr10
          obtain ⟨A10, c10, rfl⟩ := Kd.R_slice r10
          have HL10 := Lib.hid (Kd.R_reads' r10).2.2
          have HT10 := Lib.hid t10.2
          have s10 := t10.1
          clear n10 hr10 r10 g10 t10
          refine ⟨_, rfl, ?_⟩
          refine hK.out _ _ s10 (fun hHeld1 => ?_)
          clear hK K
          refine norm_ (a' := ?_) ?_ ?_
          rotate_left
          · show Act.put _ (some 129) _ = _
            simp only [Act.put, List.setIfInBounds_toArray, List.set_cons_zero, List.set_cons_succ, i64_w, i32_w]
            rfl
          refine one_ (i := 8) (N := some 134) #[true, true, true, true, true, true, true, true, true, false, false, false, false, false, false, false, false, false, false, false] rfl rfl (by kernel_rfl) (by decide) (fun K hK => ?_)
          refine goes_ Try.func18 (by kernel_rfl) rfl #[.slice A10 L.length c10, .slice AR L.length cR] (by rfl) rfl rfl (by (try simp only [List.map_toArray, List.map_cons, List.map_nil]); first | done | rfl) ?_
          refine (sameList_true A10 AR c10 cR L _ HL10.out HT10.out).mono ?_
          rintro e w11 ⟨rfl, hB11⟩
          have s11 := pw_cell_below hB11 s10
          have HB11 := Lib.hid (below_then HB10.out HB10.out.size hB11)
          have HN11 := Lib.hid (HN10.out.below hB11)
          have HR11 := Lib.hid (HR10.out.below hB11)
          have hz11 := hB11.size
          clear hB11 HN10 HR10 HL10 HT10
          refine ⟨_, rfl, ?_⟩
          refine hK.out _ _ s11 (fun hHeld2 => ?_)
          clear hK K
          refine norm_ (a' := ?_) ?_ ?_
          rotate_left
          · show Act.put _ (some 134) _ = _
            simp only [Act.put, List.setIfInBounds_toArray, List.set_cons_zero, List.set_cons_succ, i64_w, i32_w]
            rfl
          refine pure_ (i := 9) (N := some 135) (v := ?_) (a' := ?_) #[true, true, true, true, true, true, true, true, true, true, false, false, false, false, false, false, false, false, false, false] rfl rfl (by kernel_rfl) (fun _ _ _ h => h) (Or.inl ⟨by rfl, ?_⟩) ?_ ?_
          rotate_left
          · intro w'
            go_simp
            with_reducible rfl
          rotate_left
          · simp only [Act.put, List.setIfInBounds_toArray, List.set_cons_zero, List.set_cons_succ, i64_w, i32_w]
            rfl
          refine pure_ (i := 10) (N := some 136) (v := ?_) (a' := ?_) #[true, true, true, true, true, true, true, true, true, true, true, false, false, false, false, false, false, false, false, false] rfl rfl (by kernel_rfl) (fun _ _ _ h => h) (Or.inl ⟨by rfl, ?_⟩) ?_ ?_
          rotate_left
          · intro w'
            go_simp
            with_reducible rfl
          rotate_left
          · simp only [Act.put, List.setIfInBounds_toArray, List.set_cons_zero, List.set_cons_succ, i64_w, i32_w]
            rfl
          refine pure_ (i := 11) (N := some 137) (v := ?_) (a' := ?_) #[true, true, true, true, true, true, true, true, true, true, true, true, false, false, false, false, false, false, false, false] rfl rfl (by kernel_rfl) (fun _ _ _ h => h) (Or.inl ⟨by rfl, ?_⟩) ?_ ?_
          rotate_left
          · intro w'
            go_simp
            with_reducible rfl
          rotate_left
          · simp only [Act.put, List.setIfInBounds_toArray, List.set_cons_zero, List.set_cons_succ, i64_w, i32_w]
            rfl
          refine pure_ (i := 13) (N := some 139) (v := ?_) (a' := ?_) #[true, true, true, true, true, true, true, true, true, true, true, true, false, true, false, false, false, false, false, false] rfl rfl (by kernel_rfl) (fun _ _ _ h => h) (Or.inl ⟨by rfl, ?_⟩) ?_ ?_
          rotate_left
          · intro w'
            go_simp
            with_reducible rfl
          rotate_left
          · simp only [Act.put, List.setIfInBounds_toArray, List.set_cons_zero, List.set_cons_succ, i64_w, i32_w]
            rfl
          refine pure_ (i := 14) (N := some 140) (v := ?_) (a' := ?_) #[true, true, true, true, true, true, true, true, true, true, true, true, false, true, true, false, false, false, false, false] rfl rfl (by kernel_rfl) (fun _ _ _ h => h) (Or.inl ⟨by rfl, ?_⟩) ?_ ?_
          rotate_left
          · intro w'
            go_simp
            with_reducible rfl
          rotate_left
          · simp only [Act.put, List.setIfInBounds_toArray, List.set_cons_zero, List.set_cons_succ, i64_w, i32_w]
            rfl
          refine pure_ (i := 15) (N := some 141) (v := ?_) (a' := ?_) #[true, true, true, true, true, true, true, true, true, true, true, true, false, true, true, true, false, false, false, false] rfl rfl (by kernel_rfl) (fun _ _ _ h => h) (Or.inl ⟨by rfl, ?_⟩) ?_ ?_
          rotate_left
          · intro w'
            go_simp
            with_reducible rfl
          rotate_left
          · simp only [Act.put, List.setIfInBounds_toArray, List.set_cons_zero, List.set_cons_succ, i64_w, i32_w]
            rfl
          refine take_ (i := 16) (N := some 142) (v := ?_) (a' := ?_) #[true, true, true, true, true, true, true, true, true, true, true, true, false, true, true, true, true, false, false, false] rfl rfl (by kernel_rfl) (fun _ _ _ h => h) (Or.inl ⟨by rfl, ?_⟩) hHeld2 ?_ ?_
          rotate_left
          · rintro w' s0
            go_simp
            with_reducible rfl
          rotate_left
          · simp only [Act.put, List.setIfInBounds_toArray, List.set_cons_zero, List.set_cons_succ, i64_w, i32_w]
            rfl
          refine one_ (i := 12) (N := some 138) #[true, true, true, true, true, true, true, true, true, true, true, true, true, true, true, true, true, false, false, false] rfl rfl (by kernel_rfl) (by decide) (fun K hK => ?_)
          refine goes_ Try.func19 (by kernel_rfl) rfl #[.pointer (some ⟨nb, 0, none⟩)] (by rfl) rfl rfl (by (try simp only [List.map_toArray, List.map_cons, List.map_nil]); first | done | rfl) ?_
          refine (allR nb c _ _ _ HN11.out hL).mono ?_
          rintro e w12 ⟨v12, rfl, r12, n12, g12⟩
          have hr12 := HR11.out.grown HN11.out g12
          have t12 := refcell hr12 (gb_cell1 g12 s11 (fun e => by have h := Option.some.inj e; simp only at h; omega))
          have HB12 := Lib.hid (gb_to_below (gb_trans (gb_below HB11.out (some c)) g12) (Nat.le_refl _) (fun k e => by have := Option.some.inj e; omega))
          obtain ⟨A12, c12, rfl⟩ := Kd.R_slice r12
          have HL12 := Lib.hid (Kd.R_reads' r12).2.2
          have HT12 := Lib.hid t12.2
          have s12 := t12.1
          clear n12 hr12 r12 g12 t12 HN11 HR11
          refine ⟨_, rfl, ?_⟩
          refine hK.out _ _ s12 (fun hHeld3 => ?_)
          clear hK K
          refine norm_ (a' := ?_) ?_ ?_
          rotate_left
          · show Act.put _ (some 138) _ = _
            simp only [Act.put, List.setIfInBounds_toArray, List.set_cons_zero, List.set_cons_succ, i64_w, i32_w]
            rfl
          refine one_ (i := 17) (N := some 143) #[true, true, true, true, true, true, true, true, true, true, true, true, true, true, true, true, true, true, false, false] rfl rfl (by kernel_rfl) (by decide) (fun K hK => ?_)
          refine goes_ Try.func18 (by kernel_rfl) rfl #[.slice A12 L.length c12, .slice AR L.length cR] (by rfl) rfl rfl (by (try simp only [List.map_toArray, List.map_cons, List.map_nil]); first | done | rfl) ?_
          refine (sameList_true A12 AR c12 cR L _ HL12.out HT12.out).mono ?_
          rintro e w13 ⟨rfl, hB13⟩
          have s13 := pw_cell_below hB13 s12
          have HB13 := Lib.hid (below_then HB12.out HB12.out.size hB13)
          clear hB13 HL12 HT12
          refine ⟨_, rfl, ?_⟩
          refine hK.out _ _ s13 (fun hHeld4 => ?_)
          clear hK K
          refine norm_ (a' := ?_) ?_ ?_
          rotate_left
          · show Act.put _ (some 143) _ = _
            simp only [Act.put, List.setIfInBounds_toArray, List.set_cons_zero, List.set_cons_succ, i64_w, i32_w]
            rfl
          refine tail_list 18 (t := [18, 19]) (fuel := 0) rfl rfl rfl (by kernel_rfl) (by decide) ?_
          clear HN HR HB HB10 HB11 HB12 t0 s10 s11 s12
          go_wp2_with fail
          go_ret
          exact ⟨rfl, HB13.out⟩
  · go_wp2_with fail
    go_ret
    exact ⟨rfl, HBW.out⟩
end Go.Proofs.Ytjkgkkopfpkdfaa
