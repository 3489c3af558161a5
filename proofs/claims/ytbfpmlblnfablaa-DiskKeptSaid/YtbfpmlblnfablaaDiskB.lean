/- A disk in memory; an act. -/
import Derived.Test.YtbfpmlblnfablaaDiskA
import Derived.Test.YtbfpmlblnfablaaWMore
set_option linter.unusedVariables false
set_option linter.unusedSimpArgs false
namespace Go.Proofs.Ytbfpmlblnfablaa
open Go.RowKit Go.Proofs.YtbfpmlblnfablaaW.PrintWords Go.Proofs.YtbfpmlblnfablaaW.PrintLast Go.Proofs.YtbfpmlblnfablaaW.PrintMore
attribute [local go_sem] max2_int min2_int max_two min_two max_three min_three max_four min_four

theorem do_any (w : World) (S : Nat → Prop) (b : Nat) (fs : Files) (f : Nat) (cs : Array Value) (c : Chg) (hf : FnAt w S (f, cs) c) (hm : MapAt w S b fs) (hSb : S b) (hn : fs.length < maxLen) :
    Calls Try.prog f (#[.map (some b)] ++ cs) w fun e w' => e = .returned (.tuple #[]) ∧ MapAt w' S b (appl fs c) ∧ w.mapTurned w' b := by
  obtain ⟨vs, hown, h2⟩ := id hm
  have hlen := h2.length
  obtain ⟨ha, hb, hf⟩ := hf
  rcases hf with ⟨h0, b1, b2, v, e, k1, k2, k3⟩ | ⟨h0, b1, b2, e, k1, k2⟩ | ⟨h0, b1, e, k1⟩
  · obtain ⟨rfl, rfl⟩ := Prod.mk.inj e
    obtain ⟨A, cc, rfl, hc, _⟩ := k2.slice
    refine (do_write w b b1 b2 vs c.a ha (by omega) A _ cc hown k1.1 k3.1).mono ?_
    rintro e w' ⟨rfl, ho, ht⟩
    refine ⟨rfl, ?_, ht⟩
    unfold appl
    rw [if_pos h0]
    exact hm.write hSb h2 k2 ho ht
  · obtain ⟨rfl, rfl⟩ := Prod.mk.inj e
    refine (do_rename w b b1 b2 vs c.a c.b ha hb (by omega) hown (fun v hv => ?_) k1.1 k2.1 (fun e => k2.2 (e ▸ hSb))).mono ?_
    · rcases All2.look fileRow_name c.a h2 with ⟨h, _⟩ | ⟨d, d', h, _, hr⟩
      · rw [h] at hv; cases hv
      · rw [h] at hv
        obtain rfl := Option.some.inj hv
        obtain ⟨A, cc, e, _⟩ := hr.2.slice
        exact ⟨A, _, cc, e⟩
    rintro e w' ⟨rfl, ho, ht⟩
    refine ⟨rfl, ?_, ht⟩
    unfold appl
    rw [if_neg (by omega), if_pos h0]
    have hT : Turns S w w' := (Turns.refl S w).turned ht (.inl hSb)
    rcases All2.look fileRow_name c.a h2 with ⟨h, h'⟩ | ⟨d, d', h, h', hr⟩
    · rw [h] at ho
      rw [h']
      exact ⟨vs, ho, h2.imp (fun _ _ h => h.step hT (fun _ h => .inl h))⟩
    · rw [h] at ho
      rw [h']
      have hfr : ∀ x f, FileRow w S x f → FileRow w' S x f := fun _ _ h => h.step hT (fun _ h => .inl h)
      exact ⟨_, ho, All2.put fileRow_name (n := c.b) ⟨rfl, hr.2.step hT (fun _ h => .inl h)⟩ (All2.del fileRow_name c.a (h2.imp hfr))⟩
  · obtain ⟨rfl, rfl⟩ := Prod.mk.inj e
    refine (do_remove w b b1 vs c.a ha hown k1.1).mono ?_
    rintro e w' ⟨rfl, ho, ht⟩
    refine ⟨rfl, ?_, ht⟩
    unfold appl
    rw [if_neg (by omega), if_neg (by omega)]
    exact hm.remove hSb h2 ho ht

/-- A disk, told. -/
structure D where
  room : Int
  now : Files
  old : Files
  ch : List Chg
  acts : Int
  fuse : Int
  down : Bool
abbrev tD : TypeId := 66
def DiskCells (w : World) (g : Nat) (d : D) (bn bs : Nat) (vc : Value) : Prop :=
  w.heap[g]? = some (.cells #[.int .i64 d.room, .map (some bn), .map (some bs), vc, .int .i64 d.acts, .int .i64 d.fuse, .bool d.down] tD (0, 0))
/-- What a disk leads to. -/
structure Parts (w : World) (base g : Nat) (S : Nat → Prop) (bn bs : Nat) (vc : Value) (cs : List FnV) (Sc : Nat → Prop) (now old : Files) (ch : List Chg) : Prop where
  now : MapAt w S bn now
  old : MapAt w S bs old
  row : kFn.R 71 w base Sc vc cs
  fns : All2 (FnAt w S) cs ch
  sc : ∀ k, Sc k → S k ∧ k ≠ g ∧ k ≠ bn ∧ k ≠ bs
  sn : S bn
  ss : S bs
  ne : bn ≠ bs ∧ g ≠ bn ∧ g ≠ bs
/-- A disk at block g; S: the blocks that may turn; all from base on. -/
structure DiskAt (w : World) (base g : Nat) (S : Nat → Prop) (d : D) : Prop where
  row : ∃ bn bs vc cs Sc, DiskCells w g d bn bs vc ∧ Parts w base g S bn bs vc cs Sc d.now d.old d.ch
  lt : ∀ k, S k → k < w.heap.size ∧ base ≤ k
  own : S g
section
variable {w w' : World} {base g bn bs : Nat} {S S' Sc : Nat → Prop} {vc : Value} {cs : List FnV} {d : D} {now old : Files} {ch : List Chg}
theorem Parts.step {S2 : Nat → Prop} (h : Parts w base g S bn bs vc cs Sc now old ch) (k : Turns S2 w w') (h2 : ∀ i, S2 i → S i ∧ i ≠ bn ∧ i ≠ bs ∧ ¬ Sc i) : Parts w' base g S bn bs vc cs Sc now old ch :=
  have kS : Turns S w w' := k.mono (fun i hi => .inl (h2 i hi).1)
  ⟨h.now.step k (fun hi => (h2 _ hi).2.1 rfl) (fun i hi => (h2 i hi).1) (fun _ h => .inl h), h.old.step k (fun hi => (h2 _ hi).2.2.1 rfl) (fun i hi => (h2 i hi).1) (fun _ h => .inl h),
    Kd.R_step h.row (fun i hi hl => k.block i hl (fun h' => (h2 i h').2.2.2 hi)), h.fns.imp (fun _ _ h => h.step kS (fun _ h => .inl h)), h.sc, h.sn, h.ss, h.ne⟩
theorem Parts.set (h : Parts w base g S bn bs vc cs Sc now old ch) (hg : S g) (i : Nat) (u : Value) : Parts (w.setCell ⟨g, i, none⟩ u) base g S bn bs vc cs Sc now old ch :=
  h.step (S2 := fun k => k = g) ((Turns.refl (fun k => k = g) w).set (p := ⟨g, i, none⟩) (.inl rfl) u) (fun k e => by
    subst e
    exact ⟨hg, h.ne.2.1, h.ne.2.2, fun hc => (h.sc _ hc).2.1 rfl⟩)
theorem Parts.below (h : Parts w base g S bn bs vc cs Sc now old ch) (k : Below w.heap.size w w') : Parts w' base g S bn bs vc cs Sc now old ch := h.step (S2 := fun _ => False) (Turns.of_below k _) (fun _ h => h.elim)
theorem DiskAt.glt (h : DiskAt w base g S d) : g < w.heap.size := (h.lt g h.own).1
theorem DiskAt.turns {S2 : Nat → Prop} (h : DiskAt w base g S d) (k : Turns S2 w w') (hs : ∀ i, S i → ¬ S2 i) (ht : ∀ i, S2 i → w.heap.size ≤ i ∨ False) : DiskAt w' base g S d := by
  obtain ⟨bn, bs, vc, cs, Sc, h1, h2⟩ := h.row
  have kb : Below w.heap.size w w' := k.toBelow (Nat.le_refl _) (fun i hi => by rcases ht i hi with h | h; exact h; exact h.elim)
  exact ⟨⟨bn, bs, vc, cs, Sc, (kb.block g h.glt).trans h1, h2.below kb⟩, fun i hi => ⟨Nat.lt_of_lt_of_le (h.lt i hi).1 kb.size, (h.lt i hi).2⟩, h.own⟩
theorem DiskAt.below (h : DiskAt w base g S d) (k : Below w.heap.size w w') : DiskAt w' base g S d := h.turns (S2 := fun _ => False) (Turns.of_below k _) (fun _ _ h => h) (fun _ h => h.elim)
/-- What a call at a disk leaves: a disk again, and all else. -/
def DiskStep (w w' : World) (base g : Nat) (S : Nat → Prop) (d' : D) : Prop := ∃ S', DiskAt w' base g S' d' ∧ (∀ k, S' k → S k ∨ w.heap.size ≤ k) ∧ Turns S w w'
theorem DiskStep.refl (h : DiskAt w base g S d) : DiskStep w w base g S d := ⟨S, h, fun _ hk => .inl hk, Turns.refl _ _⟩
end
theorem cells7 {W : World} {g : Nat} {a b c d e f h : Value} {t : TypeId} (k : W.heap[g]? = some (.cells #[a, b, c, d, e, f, h] t (0, 0))) :
    W.cell? ⟨g, 0, none⟩ = some a ∧ W.cell? ⟨g, 1, none⟩ = some b ∧ W.cell? ⟨g, 2, none⟩ = some c ∧ W.cell? ⟨g, 3, none⟩ = some d ∧ W.cell? ⟨g, 4, none⟩ = some e ∧ W.cell? ⟨g, 5, none⟩ = some f ∧ W.cell? ⟨g, 6, none⟩ = some h :=
  ⟨by simpa using blk_cell k 0, by simpa using blk_cell k 1, by simpa using blk_cell k 2, by simpa using blk_cell k 3, by simpa using blk_cell k 4, by simpa using blk_cell k 5, by simpa using blk_cell k 6⟩
def offD (d : D) : Bool := d.down || decide (d.fuse = 0)
def actE (d : D) (code : Int) : Int := if offD d = true then 13 else code
def ranD (d : D) : D := { d with down := false, acts := d.acts + 1, fuse := max (d.fuse - 1) (-1) }
def actD (d : D) (code : Int) (c : Chg) : D := if offD d = true then { d with down := true } else if code = 0 then { ranD d with now := appl d.now c, ch := d.ch ++ [c] } else d
/-- The numbers of a disk are such as they can be. -/
structure Small (d : D) : Prop where
  now : d.now.length ≤ 1000000
  old : d.old.length ≤ 1000000
  ch : d.ch.length ≤ 1000000
  acts : 0 ≤ d.acts ∧ d.acts ≤ 1000000
  fuse : -1 ≤ d.fuse ∧ d.fuse ≤ 9223372036854775807
  room : 0 ≤ d.room ∧ d.room ≤ 9223372036854775807
  each : (∀ p ∈ d.now, p.2.length ≤ 65536) ∧ (∀ p ∈ d.old, p.2.length ≤ 65536) ∧ ∀ c ∈ d.ch, c.t.length ≤ 65536
end Go.Proofs.Ytbfpmlblnfablaa
