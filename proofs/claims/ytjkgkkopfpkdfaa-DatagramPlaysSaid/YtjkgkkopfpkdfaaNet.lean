import Derived.Test.YtjkgkkopfpkdfaaClone
import Derived.Test.YtjkgkkopfpkdfaaComm
import Derived.Test.YtjkgkkopfpkdfaaFrame
import Derived.Deep.Cut
import Derived.Conc.LoneSelectN
set_option linter.unusedVariables false
set_option linter.unusedSimpArgs false
namespace Go.Proofs.Ytjkgkkopfpkdfaa
open Go.RowKit Go.Conc Go.Proofs.YtjkgkkopfpkdfaaW.PrintWords

structure Pkt where
  f : Int
  t : Int
  d : List Int

def kPkt : Kd Pkt := Kd.iso (Kd.pair (Kd.int .i64) (Kd.pair (Kd.int .i64) (Kd.slice 5 (Kd.int .u8)))) (fun x : Pkt => (x.f, x.t, x.d))

theorem bcell {W w1 : World} (hb : Below W.heap.size W w1) : (∀ b o, b < W.heap.size → w1.cell? ⟨b, o, none⟩ = W.cell? ⟨b, o, none⟩) ∧ (∀ b o, b < W.heap.size → w1.frozen? ⟨b, o, none⟩ = W.frozen? ⟨b, o, none⟩) :=
  ⟨fun b o h => hb.cell (p := ⟨b, o, none⟩) h, fun b o h => hb.frozen (p := ⟨b, o, none⟩) h⟩

theorem blk_alloc_old {w : World} {g : Nat} {o o' : Obj} (h : w.heap[g]? = some o) : (w.alloc o').heap[g]? = some o := blk_alloc h o'

/-- The cells of a block of three. -/
theorem cells3 {W : World} {g : Nat} {a b c : Value} {t : TypeId} (h : W.heap[g]? = some (.cells #[a, b, c] t (0, 0))) :
    W.cell? ⟨g, 0, none⟩ = some a ∧ W.cell? ⟨g, 1, none⟩ = some b ∧ W.cell? ⟨g, 2, none⟩ = some c ∧ W.frozen? ⟨g, 0, none⟩ = false ∧ W.frozen? ⟨g, 1, none⟩ = false ∧ W.frozen? ⟨g, 2, none⟩ = false :=
  ⟨by simpa using blk_cell h 0, by simpa using blk_cell h 1, by simpa using blk_cell h 2, blk_frozen h 0, blk_frozen h 1, blk_frozen h 2⟩

set_option maxHeartbeats 400000 in
theorem copied_any (f t : Int) (A : Option Addr) (c : Nat) (l : List Int) (w : World) (h : Kd.C (Kd.int .u8) w A l.length l) (hc : l.length ≤ c) (hl : l.length ≤ 140737488351232) :
    Calls Try.prog 23 #[.agg #[.int .i64 f, .int .i64 t, .slice A l.length c]] w fun e w' =>
      ∃ v, e = .returned (.agg #[.int .i64 f, .int .i64 t, v]) ∧ Kd.R (Kd.int .u8) 5 w' w.heap.size (fun _ => True) v l ∧ Below w.heap.size w w' := by
  have HC := Lib.hid h
  clear h
  go_enter Try.func23, Try.ntmps23
  go_wp2_with fail
  refine (clone_any _ _ l _ (Kd.C_below HC.out (((Below.refl _ _).alloc (Nat.le_refl _) _).alloc (by simp) _)) hc hl).mono ?_
  rintro e w1 ⟨v, rfl, hR, hB⟩
  obtain ⟨A1, c1, rfl⟩ := Kd.R_slice hR
  have b1 := blk_below (blk_alloc_old (o' := .cells #[.int .i64 0, .int .i64 0, .slice none 0 0] 33) (blk_new w (.cells #[.int .i64 f, .int .i64 t, .slice A l.length c] 33))) hB
  have b2 := blk_below (blk_new (w.alloc (.cells #[.int .i64 f, .int .i64 t, .slice A l.length c] 33)) (.cells #[.int .i64 0, .int .i64 0, .slice none 0 0] 33)) hB
  rw [World.size_alloc] at b2
  obtain ⟨p0, p1, p2, f0, f1, f2⟩ := cells3 b1
  obtain ⟨q0, q1, q2, g0, g1, g2⟩ := cells3 b2
  have hz := hB.size
  simp at hz
  have HR := Lib.hid hR
  have HB := Lib.hid hB
  clear hR hB b1 b2
  go_wp2_with fail
  have hR := HR.out
  have hB := HB.out
  simp only [World.size_alloc] at hR
  refine bodyPost_ret (v := .agg #[.int .i64 f, .int .i64 t, .slice A1 l.length c1]) (by simp [results, Try.results23, go_sem, q0, q1, q2, g0, g1, g2]) rfl ⟨_, rfl, ?_, ?_⟩
  · have h1 : Kd.R (Kd.int .u8) 5 w1 (w.heap.size + 1 + 1) (fun k => w.heap.size + 1 + 1 ≤ k) (.slice A1 l.length c1) l := Kd.R_mono (Kd.R_bound hR) (fun k hk => hk.2.1)
    refine Kd.R_lower (Kd.R_mono (ok' := fun _ => True) (Kd.R_far (Kd.R_far (Kd.R_far (Kd.R_far h1 ?_ _) ?_ _) ?_ _) ?_ _) (fun _ _ => trivial)) (by omega)
    all_goals (intro k hk; simp only; omega)
  · have h0 : Below w.heap.size w w1 := ((((Below.refl _ _).alloc (Nat.le_refl _) _).alloc (by simp) _).trans (hB.mono (by simp; omega)))
    exact (((h0.setCell (by simp) _).setCell (by simp) _).setCell (by simp) _).setCell (by simp) _

/-- A net, and what is in it. -/
def NetAt (w : World) (nb c : Nat) (vals : List Value) : Prop :=
  w.heap[nb]? = some (.cells #[.chan (some c)] 48 (0, 0)) ∧ ∃ s r, w.heap[c]? = some (.chan 256 vals.toArray false s r false)

theorem NetAt.ne {w : World} {nb c : Nat} {vals : List Value} (h : NetAt w nb c vals) : nb ≠ c := by
  rintro rfl
  obtain ⟨h1, s, r, h2⟩ := h
  rw [h1] at h2
  cases h2
theorem NetAt.cell {w : World} {nb c : Nat} {vals : List Value} (h : NetAt w nb c vals) : w.cell? ⟨nb, 0, none⟩ = some (.chan (some c)) := by
  simpa using blk_cell h.1 0
theorem NetAt.below {w w' : World} {nb c : Nat} {vals : List Value} (h : NetAt w nb c vals) (hb : Below w.heap.size w w') : NetAt w' nb c vals :=
  ⟨blk_below h.1 hb, let ⟨s, r, h2⟩ := h.2; ⟨s, r, blk_below h2 hb⟩⟩
theorem NetAt.lt {w : World} {nb c : Nat} {vals : List Value} (h : NetAt w nb c vals) : nb < w.heap.size ∧ c < w.heap.size :=
  ⟨blk_lt h.1, let ⟨s, r, h2⟩ := h.2; blk_lt h2⟩
theorem NetAt.set {w : World} {nb c : Nat} {vals vals' : List Value} (h : NetAt w nb c vals) (s r : Nat) : NetAt (w.setChan c 256 vals'.toArray false s r false) nb c vals' :=
  ⟨(blk_setChan_other _ _ _ _ _ _ _ _ _ h.ne).trans h.1, s, r, heap_setChan _ _ _ _ _ _ _ _ h.lt.2⟩

theorem zeroPkt (w : World) : (zeroValue 33).run Try.prog w = .ok (.agg #[.int .i64 0, .int .i64 0, .slice none 0 0]) w := by kernel_rfl

set_option maxHeartbeats 400000 in
theorem new_any (w : World) :
    Calls Try.prog 8 #[] w fun e w' => ∃ nb c, e = .returned (.pointer (some ⟨nb, 0, none⟩)) ∧ NetAt w' nb c [] ∧ c < nb ∧ w.heap.size ≤ c ∧ Below w.heap.size w w' := by
  have hmk : ∀ w, (Instr.makeChan 46 (.int .i64 256)).run Try.prog w = .ok (.chan (some w.heap.size)) (w.alloc (.chan 256 #[] false 0 0 false)) := fun _ => by kernel_rfl
  go_enter Try.func8, Try.ntmps8
  go_wp2_with fail
  go_ret
  refine ⟨w.heap.size + 1, w.heap.size, rfl, ⟨?_, 0, 0, ?_⟩, by omega, Nat.le_refl _, ((Below.refl _ _).alloc (Nat.le_refl _) _).alloc (by simp) _⟩
  · have := blk_new (w.alloc (.chan 256 #[] false 0 0 false)) (.cells #[.chan (some w.heap.size)] 48)
    rwa [World.size_alloc] at this
  · exact blk_alloc (blk_new w (.chan 256 #[] false 0 0 false)) _

set_option maxHeartbeats 400000 in
theorem post_room (f t : Int) (A : Option Addr) (cp : Nat) (l : List Int) (nb c : Nat) (vals : List Value) (w : World) (hn : NetAt w nb c vals)
    (h : Kd.C (Kd.int .u8) w A l.length l) (hc : l.length ≤ cp) (hl : l.length ≤ 140737488351232) (hv : vals.length < 256) :
    Calls Try.prog 15 #[.pointer (some ⟨nb, 0, none⟩), .agg #[.int .i64 f, .int .i64 t, .slice A l.length cp]] w fun e w' =>
      ∃ v, e = .returned (.bool true) ∧ NetAt w' nb c (vals ++ [.agg #[.int .i64 f, .int .i64 t, v]]) ∧ Kd.R (Kd.int .u8) 5 w' w.heap.size (fun _ => True) v l ∧ w.grownBy w' (some c) := by
  have hcell := hn.cell
  obtain ⟨hlt, hlc⟩ := hn.lt
  have HN := Lib.hid hn
  have HC := Lib.hid h
  clear hn h
  go_enter Try.func15, Try.ntmps15
  go_upto_region 3 with (fail)
  refine (copied_any f t A cp l _ (Kd.C_below HC.out ((Below.refl _ _).alloc (Nat.le_refl _) _)) hc hl).mono ?_
  rintro e w1 ⟨v, rfl, hR, hB⟩
  have HR := Lib.hid hR
  have HB := Lib.hid hB
  clear hR hB
  go_upto_region 3 with (fail)
  refine wp_region_rw ?_
  show RW _ _ _ [0, 1, 2] _ _
  obtain ⟨hb0, s0, r0, hch⟩ := (HN.out.below ((Below.refl _ _).alloc (Nat.le_refl _) _)).below HB.out
  have HCH := Lib.hid hch
  clear hch hb0
  refine RW_cons (OpStep_sel_room (v := .agg #[.int .i64 f, .int .i64 t, v]) rfl rfl rfl (zeroPkt _) rfl rfl HCH.out (by simpa using hv) (fun w2 hw2 => ?_))
  rw [List.push_toArray] at hw2
  have hnet : NetAt w2 nb c (vals ++ [.agg #[.int .i64 f, .int .i64 t, v]]) := by
    rw [hw2]
    exact ((HN.out.below ((Below.refl _ _).alloc (Nat.le_refl _) _)).below HB.out).set (s0 + 1) r0
  have hgrow : w.grownBy w2 (some c) := by
    rw [hw2]
    exact gb_setChan (gb_then (gb_alloc (gb_refl w _) _) HB.out) _ _ _ _ _ _
  have hR1 : Kd.R (Kd.int .u8) 5 w2 w.heap.size (fun _ => True) v l := by
    have h1 := Kd.R_mono (ok' := fun k => k ≠ c) (Kd.R_bound HR.out) (fun k hk => by have := hk.2.1; simp at this; omega)
    rw [hw2]
    exact Kd.R_lower (Kd.R_mono (Kd.R_step h1 (fun k hk _ => blk_setChan_other _ _ _ _ _ _ _ _ _ hk)) (fun _ _ => trivial)) (by simp)
  have HNE := Lib.hid hnet
  have HGR := Lib.hid hgrow
  have HR1 := Lib.hid hR1
  clear hnet hgrow hR1 hw2
  refine RW_list 1 rfl rfl ?_
  go_wp2
  go_ret
  exact ⟨v, rfl, HNE.out, HR1.out, HGR.out⟩

set_option maxHeartbeats 400000 in
theorem post_full (f t : Int) (A : Option Addr) (cp : Nat) (l : List Int) (nb c : Nat) (vals : List Value) (w : World) (hn : NetAt w nb c vals)
    (h : Kd.C (Kd.int .u8) w A l.length l) (hc : l.length ≤ cp) (hl : l.length ≤ 140737488351232) (hv : 256 ≤ vals.length) :
    Calls Try.prog 15 #[.pointer (some ⟨nb, 0, none⟩), .agg #[.int .i64 f, .int .i64 t, .slice A l.length cp]] w fun e w' =>
      e = .returned (.bool false) ∧ Below w.heap.size w w' := by
  have hcell := hn.cell
  obtain ⟨hlt, hlc⟩ := hn.lt
  have HN := Lib.hid hn
  have HC := Lib.hid h
  clear hn h
  go_enter Try.func15, Try.ntmps15
  go_upto_region 3 with (fail)
  refine (copied_any f t A cp l _ (Kd.C_below HC.out ((Below.refl _ _).alloc (Nat.le_refl _) _)) hc hl).mono ?_
  rintro e w1 ⟨v, rfl, hR, hB⟩
  have HR := Lib.hid hR
  have HB := Lib.hid hB
  clear hR hB
  go_upto_region 3 with (fail)
  refine wp_region_rw ?_
  show RW _ _ _ [0, 1, 2] _ _
  obtain ⟨hb0, s0, r0, hch⟩ := (HN.out.below ((Below.refl _ _).alloc (Nat.le_refl _) _)).below HB.out
  have HCH := Lib.hid hch
  clear hch hb0
  refine RW_cons (OpStep_sel_full rfl rfl rfl (zeroPkt _) rfl rfl HCH.out (by simpa using hv) ?_)
  refine RW_list 1 rfl rfl ?_
  go_wp2
  go_ret
  exact ⟨rfl, below_then ((Below.refl _ _).alloc (Nat.le_refl _) _) (by simp) HB.out⟩

set_option maxHeartbeats 400000 in
theorem many_any (nb c : Nat) (vals : List Value) (w : World) (hn : NetAt w nb c vals) :
    Calls Try.prog 17 #[.pointer (some ⟨nb, 0, none⟩)] w fun e w' =>
      e = .returned (.int .i64 vals.length) ∧ w = w' := by
  have hcell := hn.cell
  obtain ⟨hlt, hlc⟩ := hn.lt
  obtain ⟨hb0, s0, r0, hch⟩ := hn
  have hlen : (Builtin.len_ #[46] 3 #[.chan (some c)]).run Try.prog w = .ok (goInt vals.toArray.size) w := run_len_chan _ _ Try.underlying46 hch
  go_enter Try.func17, Try.ntmps17
  go_wp2
  go_ret
  exact ⟨by simp [goInt], rfl⟩

set_option maxHeartbeats 400000 in
theorem there_any (n : Int) (nb c : Nat) (vals : List Value) (w : World) (hn : NetAt w nb c vals) :
    Calls Try.prog 20 #[.pointer (some ⟨nb, 0, none⟩), .int .i64 n] w fun e w' =>
      e = .returned (.bool (decide (0 ≤ n ∧ n < vals.length))) ∧ w = w' := by
  have hcell := hn.cell
  obtain ⟨hlt, hlc⟩ := hn.lt
  obtain ⟨hb0, s0, r0, hch⟩ := hn
  have hlen : (Builtin.len_ #[46] 3 #[.chan (some c)]).run Try.prog w = .ok (goInt vals.toArray.size) w := run_len_chan _ _ Try.underlying46 hch
  by_cases h0 : 0 ≤ n
  · have d0 : decide (0 ≤ n) = true := decide_eq_true h0
    go_enter Try.func20, Try.ntmps20
    go_wp2
    go_ret
    exact ⟨by simp [h0], rfl⟩
  · have d0 : decide (0 ≤ n) = false := decide_eq_false h0
    go_enter Try.func20, Try.ntmps20
    go_wp2
    go_ret
    exact ⟨by simp [h0], rfl⟩

end Go.Proofs.Ytjkgkkopfpkdfaa
