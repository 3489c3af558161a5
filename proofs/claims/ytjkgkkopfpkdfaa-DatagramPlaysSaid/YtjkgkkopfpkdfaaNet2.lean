import Derived.Test.YtjkgkkopfpkdfaaNet
import Derived.Test.YtjkgkkopfpkdfaaRegion
set_option linter.unusedVariables false
set_option linter.unusedSimpArgs false
namespace Go.Proofs.Ytjkgkkopfpkdfaa
open Go.RowKit Go.Conc Go.Proofs.YtjkgkkopfpkdfaaW.PrintWords Go.Proofs.YtjkgkkopfpkdfaaW.PrintLast

theorem infoPkt : (Try.prog.info? 33).map (fun i => (i.zero, i.size, i.bytes)) = some (some (.agg #[.int .i64 0, .int .i64 0, .slice none 0 0]), 3, 40) := by kernel_rfl

/-- The cell of a block of one. -/
theorem cells1 {W : World} {g : Nat} {a : Value} {t : TypeId} (h : W.heap[g]? = some (.cells #[a] t (0, 0))) :
    W.cell? ⟨g, 0, none⟩ = some a ∧ W.frozen? ⟨g, 0, none⟩ = false := ⟨by simpa using blk_cell h 0, blk_frozen h 0⟩

theorem keep_box3 {w w1 : World} {a b c v : Value} {t : TypeId} {g : Nat} (ho : w.cell? ⟨g, 0, none⟩ = some v) (hlt : g < w.heap.size)
    (hB : Below (w.alloc (.cells #[a, b, c] t)).drew.heap.size (w.alloc (.cells #[a, b, c] t)).drew w1) :
    w1.cell? ⟨g, 0, none⟩ = some v ∧ w1.cell? ⟨w.heap.size, 0, none⟩ = some a ∧ w1.cell? ⟨w.heap.size, 1, none⟩ = some b ∧ w1.cell? ⟨w.heap.size, 2, none⟩ = some c := by
  have hb : w1.heap[w.heap.size]? = some (.cells #[a, b, c] t (0, 0)) := blk_below (w := (w.alloc (.cells #[a, b, c] t)).drew) (blk_new w _) hB
  obtain ⟨p0, p1, p2, _⟩ := cells3 hb
  refine ⟨?_, p0, p1, p2⟩
  have h1 : Below w.heap.size w w1 := below_then ((Below.refl _ _).alloc (Nat.le_refl _) _).drew (by simp) hB
  exact (h1.cell (p := ⟨g, 0, none⟩) hlt).trans ho

theorem keep_alloc4 {w : World} {p q r s : Addr} {a b c d : Value} (h : w.cell? p = some a ∧ w.cell? q = some b ∧ w.cell? r = some c ∧ w.cell? s = some d) (o : Obj) :
    (w.alloc o).cell? p = some a ∧ (w.alloc o).cell? q = some b ∧ (w.alloc o).cell? r = some c ∧ (w.alloc o).cell? s = some d := by
  have hb : Below w.heap.size w (w.alloc o) := (Below.refl _ _).alloc (Nat.le_refl _) _
  exact ⟨pw_cell_below hb h.1, pw_cell_below hb h.2.1, pw_cell_below hb h.2.2.1, pw_cell_below hb h.2.2.2⟩

theorem kPkt_mkM {w : World} {base : Nat} {ok : Nat → Prop} (x : Pkt) {v : Value} (g : Kd.R (Kd.int .u8) 5 w base ok v x.d) : kPkt.M w base ok x [.int .i64 x.f, .int .i64 x.t, v] :=
  ⟨[.int .i64 x.f], [.int .i64 x.t, v], rfl, rfl, ⟨[.int .i64 x.t], [v], rfl, rfl, ⟨v, rfl, g⟩⟩⟩

set_option maxHeartbeats 1000000 in
theorem all1_any (i f t : Int) (A : Option Addr) (cp : Nat) (l : List Int) (ob : Nat) (v : Value) (L : List Pkt) (w : World)
    (hob : w.heap[ob]? = some (.cells #[v] 27 (0, 0))) (hR : Kd.R kPkt 33 w (ob + 1) (fun _ => True) v L)
    (h : Kd.C (Kd.int .u8) w A l.length l) (hc : l.length ≤ cp) (hl : l.length ≤ 140737488351232) (hL : L.length ≤ 1000) :
    Calls Try.prog 24 #[.int .i64 i, .agg #[.int .i64 f, .int .i64 t, .slice A l.length cp], .pointer (some ⟨ob, 0, none⟩)] w fun e w' =>
      ∃ v', e = .returned (.bool true) ∧ w'.heap[ob]? = some (.cells #[v'] 27 (0, 0)) ∧ Kd.R kPkt 33 w' (ob + 1) (fun _ => True) v' (L ++ [⟨f, t, l⟩]) ∧ Below ob w w' ∧ (∀ k, k < w.heap.size → k ≠ ob → some k ≠ v.ownBlock → w'.heap[k]? = w.heap[k]?) := by
  obtain ⟨ho, hf⟩ := cells1 hob
  have hlt := blk_lt hob
  have HC := Lib.hid h
  have HR := Lib.hid hR
  have HO := Lib.hid hob
  clear h hR hob
  go_enter Try.func24, Try.ntmps24
  go_upto_region 1 with (fail)
  refine start_ (S := fun w' => w'.cell? ⟨ob, 0, none⟩ = some v ∧ w'.cell? ⟨w.heap.size, 0, none⟩ = some (.int .i64 f) ∧ w'.cell? ⟨w.heap.size, 1, none⟩ = some (.int .i64 t) ∧ w'.cell? ⟨w.heap.size, 2, none⟩ = some (.slice A l.length cp)) (ds := [4, 5]) (n := 6) #[false, false, false, false, false, false] rfl rfl rfl ?hS0 (fun hHeld => ?hrun)
  case hS0 => go_simp
  case hrun =>
    refine take_ (i := 0) (N := some 6) (v := ?_) (a' := ?_) #[true, false, false, false, false, false] rfl rfl (by kernel_rfl) (fun _ _ _ h => h) (Or.inl ⟨by rfl, ?_⟩) hHeld ?_ ?_
    rotate_left
    · rintro w' ⟨s0, s1, s2, s3⟩
      go_simp
      with_reducible rfl
    rotate_left
    · simp only [Act.put, List.setIfInBounds_toArray, List.set_cons_zero, List.set_cons_succ, i64_w, i32_w]
      rfl
    refine take_ (i := 1) (N := some 7) (v := ?_) (a' := ?_) #[true, true, false, false, false, false] rfl rfl (by kernel_rfl) (fun _ _ _ h => h) (Or.inl ⟨by rfl, ?_⟩) hHeld ?_ ?_
    rotate_left
    · rintro w' ⟨s0, s1, s2, s3⟩
      go_simp
      with_reducible rfl
    rotate_left
    · simp only [Act.put, List.setIfInBounds_toArray, List.set_cons_zero, List.set_cons_succ, i64_w, i32_w]
      rfl
    refine one_ (i := 2) (N := some 8) #[true, true, true, false, false, false] rfl rfl (by kernel_rfl) (by decide) (fun K hK => ?_)
    refine goes_ Try.func23 (by kernel_rfl) rfl #[.agg #[.int .i64 f, .int .i64 t, .slice A l.length cp]] (by rfl) rfl rfl (by (try simp only [List.map_toArray, List.map_cons, List.map_nil]); first | done | rfl) ?_
    refine (copied_any f t A cp l _ (Kd.C_below HC.out (((Below.refl _ _).alloc (Nat.le_refl _) _).drew)) hc hl).mono ?_
    rintro e w1 ⟨v1, rfl, hR1, hB1⟩
    obtain ⟨A1, c1, rfl⟩ := Kd.R_slice hR1
    have k := keep_box3 ho hlt hB1
    refine ⟨_, rfl, ?_⟩
    refine hK.out _ _ k (fun hHeld1 => ?_)
    clear hK K
    refine norm_ (a' := ?_) ?_ ?_
    rotate_left
    · show Act.put _ (some 8) _ = _
      simp only [Act.put, List.setIfInBounds_toArray, List.set_cons_zero, List.set_cons_succ, i64_w, i32_w]
      rfl
    refine one_ (i := 3) (N := some 9) #[true, true, true, true, false, false] rfl rfl (by kernel_rfl) (by decide) (fun K hK => ?_)
    refine value_ (by rfl) rfl (by go_simp; first | rfl | exact ⟨rfl, rfl⟩) ?_
    have k2 := keep_alloc4 k (o := .cells #[.int .i64 f, .int .i64 t, .slice A1 l.length c1] 33)
    refine hK.out _ _ k2 (fun hHeld2 => ?_)
    clear hK K
    refine norm_ (a' := ?_) ?_ ?_
    rotate_left
    · show Act.put _ (some 9) _ = _
      simp only [Act.put, List.setIfInBounds_toArray, List.set_cons_zero, List.set_cons_succ, i64_w, i32_w]
      rfl
    refine tail_list 4 (t := [4, 5]) (fuel := 0) rfl rfl rfl (by kernel_rfl) (by decide) ?_
    have hB0 : Below w.heap.size w w1 := below_then ((Below.refl _ _).alloc (Nat.le_refl _) _).drew (by simp) hB1
    have hz := hB1.size
    simp at hz
    replace hR1 : Kd.R (Kd.int .u8) 5 w1 (w.heap.size + 1) (fun _ => True) (.slice A1 l.length c1) l := by simpa using hR1
    have ⟨hvb, hvl⟩ : (∀ k, v.ownBlock = some k → ob + 1 ≤ k) ∧ (∀ k, v.ownBlock = some k → k < w.heap.size) := by
      obtain ⟨inner, hi⟩ := Kd.R_own HR.out
      exact ⟨own_base hi, own_lt hi⟩
    refine Kd.R_append kPkt (w0 := w) (ob + 1) rfl _ _ 27 33 (.agg #[.int .i64 0, .int .i64 0, .slice none 0 0]) 40 rfl Try.underlying27 infoPkt rfl (by decide) (by decide) v L ⟨f, t, l⟩ [.int .i64 f, .int .i64 t, .slice A1 l.length c1] (fun _ => True) (fun k => some k ≠ v.ownBlock) rfl rfl ?hp (fun _ h => ⟨trivial, h⟩) (fun _ _ => trivial) ?HO ?HB ?hb ?hl ?hk
    case hp =>
      refine kPkt_mkM ⟨f, t, l⟩ (Kd.R_lower (Kd.R_mono (Kd.R_bound hR1) (fun k hk e => ?_)) (by omega))
      have := hvl k e.symm
      have := hk.2.1
      omega
    case HO => exact Kd.R_below HR.out hB0
    case HB => exact hB0.mono (by omega)
    case hb => omega
    case hl => omega
    case hk =>
      intro v2 w2 hR2 hB2 hg2 hat2
      obtain ⟨A2, c2, rfl⟩ := Kd.R_slice hR2
      have hobs : w2.heap[ob]? = some (.cells #[v] 27 (0, 0)) := by
        have h1 : w1.heap[ob]? = some (.cells #[v] 27 (0, 0)) := blk_below HO.out hB0
        exact gb_blk hg2 h1 (fun e => by have := hvb ob e.symm; omega)
      obtain ⟨p0, p1⟩ := cells1 hobs
      have HFR := Lib.hid (show ∀ k, k < w.heap.size → k ≠ ob → some k ≠ v.ownBlock → w2.heap[k]? = w.heap[k]? from fun k h1 _ h3 => (hg2.block k (by omega) h3).trans (hB0.block k h1))
      have HR2 := Lib.hid hR2
      have HB2 := Lib.hid hB2
      have HOB := Lib.hid hobs
      clear hR2 hB2 hobs hg2 hat2 hB0 hR1 hB1 hHeld hHeld1 hHeld2 k k2
      go_wp2
      go_ret
      have hR3 : Kd.R kPkt 33 w2 (ob + 1) (fun _ => True) (.slice A2 (L.length + 1) c2) (L ++ [⟨f, t, l⟩]) := by simpa using HR2.out
      refine ⟨_, rfl, by simpa using blk_set HOB.out 0 (.slice A2 (L.length + 1) c2), ?_, Below.setCell (B := ob) (p := ⟨ob, 0, none⟩) (HB2.out.mono (Nat.le_succ ob)) (Nat.le_refl _) _, fun k h1 h2 h3 => (Below.heap_setCell _ _ _ _ h2).trans (HFR.out k h1 h2 h3)⟩
      exact Kd.R_mono (Kd.R_far (p := ⟨ob, 0, none⟩) (ok := fun k => ob + 1 ≤ k) (Kd.R_mono (Kd.R_bound hR3) (fun k hk => hk.2.1)) (fun k hk => by simp only; omega) _) (fun _ _ => trivial)
end Go.Proofs.Ytjkgkkopfpkdfaa
