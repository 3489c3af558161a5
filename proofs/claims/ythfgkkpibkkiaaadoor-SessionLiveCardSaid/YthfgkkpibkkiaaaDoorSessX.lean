/- A pair of ends, and what is on its way, in memory. -/
import Derived.Test.YthfgkkpibkkiaaaDoorSessW
import Derived.Test.YthfgkkpibkkiaaaDoorSessK
set_option linter.unusedVariables false
set_option linter.unusedSimpArgs false
namespace Go.Proofs.YthfgkkpibkkiaaaDoor
open Go.RowKit Go.Proofs.YthfgkkpibkkiaaaDoorW.PrintWords Go.Proofs.YthfgkkpibkkiaaaDoorW.PrintLast Go.Proofs.YthfgkkpibkkiaaaDoor.PSessionPlays

abbrev SV := Option Addr × Nat × Nat
def encV (x : SV) : Value := .slice x.1 x.2.1 x.2.2
abbrev kSl : Kd SV := Kd.scalar encV (fun _ => rfl)
abbrev kFly : Kd (Bool × S24) := Kd.pair Kd.bool k24
/-- A text that is read where it lies. -/
def View (w : World) (v : SV) (t : List Int) : Prop := t.length = v.2.1 ∧ v.2.1 ≤ v.2.2 ∧ Kd.C (Kd.int .u8) w v.1 v.2.1 t
def Views (w : World) (vs : List SV) (ts : List (List Int)) : Prop := vs.length = ts.length ∧ ∀ (i : Nat) (v : SV) (t : List Int), vs[i]? = some v → ts[i]? = some t → View w v t
theorem Views.nil (w : World) : Views w [] [] := ⟨rfl, fun i v t h => by simp at h⟩
theorem Views.add {w : World} {vs : List SV} {ts : List (List Int)} {v : SV} {t : List Int} (h : Views w vs ts) (hv : View w v t) : Views w (vs ++ [v]) (ts ++ [t]) := by
  refine ⟨by rw [List.length_append, List.length_append, h.1]; rfl, fun i v' t' h1 h2 => ?_⟩
  rcases Nat.lt_or_ge i vs.length with hi | hi
  · rw [List.getElem?_append_left hi] at h1
    rw [List.getElem?_append_left (by rw [← h.1]; exact hi)] at h2
    exact h.2 i v' t' h1 h2
  · rw [List.getElem?_append_right hi] at h1
    rw [List.getElem?_append_right (by rw [← h.1]; exact hi), ← h.1] at h2
    cases hk : i - vs.length with
    | zero =>
      rw [hk] at h1 h2
      obtain rfl := Option.some.inj h1
      obtain rfl := Option.some.inj h2
      exact hv
    | succ k =>
      rw [hk] at h1
      simp at h1
theorem views_C {w1 w : World} (hB : Below w1.heap.size w1 w) {us : List SV} {ts : List (List Int)} {A : Option Addr} {n : Nat} (h : Kd.C kSl w A n us) (hv : Views w1 us ts) : Kd.C kT w A n ts := by
  refine ⟨by rw [← hv.1]; exact h.1, h.2.1, fun hn => ?_⟩
  obtain ⟨ad, e, hc⟩ := h.2.2 hn
  refine ⟨ad, e, fun j t hj => ?_⟩
  have hlt := (List.getElem?_eq_some_iff.1 hj).1
  obtain ⟨u, hu⟩ : ∃ u, us[j]? = some u := ⟨_, List.getElem?_eq_getElem (by rw [hv.1]; exact hlt)⟩
  obtain ⟨c, hl, hr, hcell⟩ := hc j _ hu
  have hr' : c = [encV u] := hr
  obtain ⟨h1, h2, h3⟩ := hv.2 j _ t hu hj
  refine ⟨c, hl, ?_, hcell⟩
  rw [hr']
  exact ⟨u.1, u.2.2, (show [encV u] = [Value.slice u.1 t.length u.2.2] from by rw [h1]; rfl), (by rw [h1]; exact h2), (by rw [h1]; exact Kd.C_below h3 hB)⟩
section
variable {T : TypeId} {w0 w w' : World} {F F' : Nat → Prop} {g1 g2 : Nat} {e e' e1 e2 : E}
/-- What the caller holds has turned, and grown. -/
theorem TwoF.widen (h : TwoF T w0 w F g1 g2 e1 e2) (k : Turns F w w') (hb : ∀ i, F i → w0.heap.size ≤ i) : TwoF T w0 w' (Since F w w') g1 g2 e1 e2 := by
  obtain ⟨S1, S2, h1, h2, h3, h4⟩ := h.ex
  refine ⟨h.hB.trans (k.toBelow h.hB.size hb), S1, S2, h1.turns k (fun i hi hf => (h4 i hf).2.1 hi), h2.turns k (fun i hi hf => (h4 i hf).2.2 hi), h3, fun i hi => ?_⟩
  rcases hi with hi | hi
  · exact ⟨Nat.lt_of_lt_of_le (h4 i hi).1 k.size, (h4 i hi).2⟩
  · exact ⟨hi.2, fun hS => by have := (h1.lt i hS).1; omega, fun hS => by have := (h2.lt i hS).1; omega⟩
theorem TwoF.lt (h : TwoF T w0 w F g1 g2 e1 e2) : ∀ k, F k → k < w.heap.size := by
  obtain ⟨S1, S2, _, _, _, h4⟩ := h.ex
  exact fun k hk => (h4 k hk).1
end
structure PairRows (w1 w : World) (F : Nat → Prop) (pb g1 g2 : Nat) (l : List (Bool × S24)) (s t : List (List Int)) (vl vs vt : Value) (Fl Fs Ft : Nat → Prop) (us ut : List SV) : Prop where
  blk : w.heap[pb]? = some (.cells #[.pointer (some ⟨g1, 0, none⟩), .pointer (some ⟨g2, 0, none⟩), vl, vs, vt] 55 (0, 0))
  pF : F pb
  fb : ∀ k, F k → w1.heap.size ≤ k ∧ k < w.heap.size
  rl : Kd.R kFly 80 w w1.heap.size Fl vl l
  rs : Kd.R kSl 22 w w1.heap.size Fs vs us
  rt : Kd.R kSl 22 w w1.heap.size Ft vt ut
  ws : Views w1 us s
  wt : Views w1 ut t
  fl : ∀ k, Fl k → F k ∧ k ≠ pb ∧ ¬ Fs k ∧ ¬ Ft k
  fs : ∀ k, Fs k → F k ∧ k ≠ pb ∧ ¬ Ft k
  ft : ∀ k, Ft k → F k ∧ k ≠ pb
section
variable {w1 w w' w9 : World} {F : Nat → Prop} {pb g1 g2 : Nat} {l l' : List (Bool × S24)} {s t : List (List Int)} {vl vs vt v1 : Value} {Fl Fs Ft Fl' : Nat → Prop} {us ut : List SV}
/-- The ends have turned, or memory has come. -/
theorem PairRows.step (h : PairRows w1 w F pb g1 g2 l s t vl vs vt Fl Fs Ft us ut) {S : Nat → Prop} (k : Turns S w w') (hS : ∀ i, S i → ¬ F i) : PairRows w1 w' F pb g1 g2 l s t vl vs vt Fl Fs Ft us ut :=
  ⟨(k.block pb (h.fb pb h.pF).2 (fun h' => hS pb h' h.pF)).trans h.blk, h.pF, fun i hi => ⟨(h.fb i hi).1, Nat.lt_of_lt_of_le (h.fb i hi).2 k.size⟩,
    Kd.R_step h.rl (fun i hi hl => k.block i hl (fun h' => hS i h' (h.fl i hi).1)), Kd.R_step h.rs (fun i hi hl => k.block i hl (fun h' => hS i h' (h.fs i hi).1)), Kd.R_step h.rt (fun i hi hl => k.block i hl (fun h' => hS i h' (h.ft i hi).1)),
    h.ws, h.wt, h.fl, h.fs, h.ft⟩
theorem PairRows.below (h : PairRows w1 w F pb g1 g2 l s t vl vs vt Fl Fs Ft us ut) (k : Below w.heap.size w w') : PairRows w1 w' F pb g1 g2 l s t vl vs vt Fl Fs Ft us ut := h.step (Turns.of_below k (fun _ => False)) (fun _ h' => h'.elim)
theorem PairRows.wide (h : PairRows w1 w F pb g1 g2 l s t vl vs vt Fl Fs Ft us ut) (k : Below w.heap.size w w') (hb : w1.heap.size ≤ w.heap.size) : PairRows w1 w' (Since F w w') pb g1 g2 l s t vl vs vt Fl Fs Ft us ut := by
  obtain ⟨a, b, c, d, e, f, g, i, j, m, n⟩ := h.below k
  exact ⟨a, .inl b, fun q hq => by rcases hq with hq | hq; exact c q hq; exact ⟨by omega, hq.2⟩, d, e, f, g, i, fun q hq => ⟨.inl (j q hq).1, (j q hq).2⟩, fun q hq => ⟨.inl (m q hq).1, (m q hq).2⟩, fun q hq => ⟨.inl (n q hq).1, (n q hq).2⟩⟩
/-- The rows are apart from the pair's own block. -/
theorem PairRows.cells (h : PairRows w1 w F pb g1 g2 l s t vl vs vt Fl Fs Ft us ut) :
    w.cell? ⟨pb, 0, none⟩ = some (.pointer (some ⟨g1, 0, none⟩)) ∧ w.cell? ⟨pb, 1, none⟩ = some (.pointer (some ⟨g2, 0, none⟩)) ∧ w.cell? ⟨pb, 2, none⟩ = some vl ∧ w.cell? ⟨pb, 3, none⟩ = some vs ∧ w.cell? ⟨pb, 4, none⟩ = some vt := cells5 h.blk
/-- s has grown by a text. -/
theorem PairRows.growS (h : PairRows w1 w F pb g1 g2 l s t vl vs vt Fl Fs Ft us ut) {v : SV} {x : List Int} (hb : w1.heap.size ≤ w.heap.size) (hR : Kd.R kSl 22 w9 w1.heap.size (fun k => Fs k ∨ w.heap.size ≤ k) v1 (us ++ [v])) (hg : w.grownBy w9 vs.ownBlock) (hv : View w1 v x) :
    w9.heap[pb]? = some (.cells #[.pointer (some ⟨g1, 0, none⟩), .pointer (some ⟨g2, 0, none⟩), vl, vs, vt] 55 (0, 0)) ∧ Turns F w (w9.setCell ⟨pb, 3, none⟩ v1) ∧
    PairRows w1 (w9.setCell ⟨pb, 3, none⟩ v1) (Since F w w9) pb g1 g2 l (s ++ [x]) t vl v1 vt Fl (fun k => (Fs k ∨ w.heap.size ≤ k) ∧ k < w9.heap.size) Ft (us ++ [v]) ut := by
  have hown : ∀ k, vs.ownBlock = some k → Fs k := fun k hk => own_ok h.rs k hk
  have hblk : ∀ k, k < w.heap.size → ¬ Fs k → w9.heap[k]? = w.heap[k]? := fun k hk hn => hg.block k hk (fun e => hn (hown k e.symm))
  have hz := hg.size
  have hpl := (h.fb pb h.pF).2
  have hp9 := (hblk pb hpl (fun h' => (h.fs pb h').2.1 rfl)).trans h.blk
  refine ⟨hp9, ((Turns.refl F w).grown hg (fun i e => .inl (h.fs i (hown i e)).1)).set (.inl h.pF) v1, ⟨?_, .inl h.pF, ?_, ?_, ?_, ?_, h.ws.add hv, h.wt, ?_, ?_, ?_⟩⟩
  · have := blk_set hp9 3 v1
    rw [this]
    rfl
  · intro k hk
    have hsz : (w9.setCell ⟨pb, 3, none⟩ v1).heap.size = w9.heap.size := by simp [World.setCell]
    rw [hsz]
    rcases hk with hk | hk
    · exact ⟨(h.fb k hk).1, by have := (h.fb k hk).2; omega⟩
    · exact ⟨by omega, hk.2⟩
  · exact Kd.R_far (Kd.R_step h.rl (fun i hi hl => hblk i hl (h.fl i hi).2.2.1)) (fun i hi => (h.fl i hi).2.1) _
  · refine Kd.R_far (Kd.R_mono (Kd.R_bound hR) (fun k hk => ⟨hk.1, hk.2.2.1⟩)) (fun k hk => ?_) _
    show k ≠ pb
    rcases hk.1 with h' | h'
    · exact (h.fs k h').2.1
    · omega
  · exact Kd.R_far (Kd.R_step h.rt (fun i hi hl => hblk i hl (fun h' => (h.fs i h').2.2 hi))) (fun i hi => (h.ft i hi).2) _
  · intro k hk
    have hkl := (h.fb k (h.fl k hk).1).2
    refine ⟨.inl (h.fl k hk).1, (h.fl k hk).2.1, fun h' => ?_, (h.fl k hk).2.2.2⟩
    rcases h'.1 with h' | h'
    · exact (h.fl k hk).2.2.1 h'
    · omega
  · rintro k ⟨h' | h', hl⟩
    · exact ⟨.inl (h.fs k h').1, (h.fs k h').2⟩
    · exact ⟨.inr ⟨h', hl⟩, by omega, fun hf => by have := (h.fb k (h.ft k hf).1).2; omega⟩
  · exact fun k hk => ⟨.inl (h.ft k hk).1, (h.ft k hk).2⟩
/-- t has grown by a text. -/
theorem PairRows.growT (h : PairRows w1 w F pb g1 g2 l s t vl vs vt Fl Fs Ft us ut) {v : SV} {x : List Int} (hb : w1.heap.size ≤ w.heap.size) (hR : Kd.R kSl 22 w9 w1.heap.size (fun k => Ft k ∨ w.heap.size ≤ k) v1 (ut ++ [v])) (hg : w.grownBy w9 vt.ownBlock) (hv : View w1 v x) :
    w9.heap[pb]? = some (.cells #[.pointer (some ⟨g1, 0, none⟩), .pointer (some ⟨g2, 0, none⟩), vl, vs, vt] 55 (0, 0)) ∧ Turns F w (w9.setCell ⟨pb, 4, none⟩ v1) ∧
    PairRows w1 (w9.setCell ⟨pb, 4, none⟩ v1) (Since F w w9) pb g1 g2 l s (t ++ [x]) vl vs v1 Fl Fs (fun k => (Ft k ∨ w.heap.size ≤ k) ∧ k < w9.heap.size) us (ut ++ [v]) := by
  have hown : ∀ k, vt.ownBlock = some k → Ft k := fun k hk => own_ok h.rt k hk
  have hblk : ∀ k, k < w.heap.size → ¬ Ft k → w9.heap[k]? = w.heap[k]? := fun k hk hn => hg.block k hk (fun e => hn (hown k e.symm))
  have hz := hg.size
  have hpl := (h.fb pb h.pF).2
  have hp9 := (hblk pb hpl (fun h' => (h.ft pb h').2 rfl)).trans h.blk
  refine ⟨hp9, ((Turns.refl F w).grown hg (fun i e => .inl (h.ft i (hown i e)).1)).set (.inl h.pF) v1, ⟨?_, .inl h.pF, ?_, ?_, ?_, ?_, h.ws, h.wt.add hv, ?_, ?_, ?_⟩⟩
  · have := blk_set hp9 4 v1
    rw [this]
    rfl
  · intro k hk
    have hsz : (w9.setCell ⟨pb, 4, none⟩ v1).heap.size = w9.heap.size := by simp [World.setCell]
    rw [hsz]
    rcases hk with hk | hk
    · exact ⟨(h.fb k hk).1, by have := (h.fb k hk).2; omega⟩
    · exact ⟨by omega, hk.2⟩
  · exact Kd.R_far (Kd.R_step h.rl (fun i hi hl => hblk i hl (h.fl i hi).2.2.2)) (fun i hi => (h.fl i hi).2.1) _
  · exact Kd.R_far (Kd.R_step h.rs (fun i hi hl => hblk i hl (h.fs i hi).2.2)) (fun i hi => (h.fs i hi).2.1) _
  · refine Kd.R_far (Kd.R_mono (Kd.R_bound hR) (fun k hk => ⟨hk.1, hk.2.2.1⟩)) (fun k hk => ?_) _
    show k ≠ pb
    rcases hk.1 with h' | h'
    · exact (h.ft k h').2
    · omega
  · intro k hk
    have hkl := (h.fb k (h.fl k hk).1).2
    refine ⟨.inl (h.fl k hk).1, (h.fl k hk).2.1, (h.fl k hk).2.2.1, fun h' => ?_⟩
    rcases h'.1 with h' | h'
    · exact (h.fl k hk).2.2.2 h'
    · omega
  · intro k hk
    have hkl := (h.fb k (h.fs k hk).1).2
    refine ⟨.inl (h.fs k hk).1, (h.fs k hk).2.1, fun h' => ?_⟩
    rcases h'.1 with h' | h'
    · exact (h.fs k hk).2.2 h'
    · omega
  · rintro k ⟨h' | h', hl⟩
    · exact ⟨.inl (h.ft k h').1, (h.ft k h').2⟩
    · exact ⟨.inr ⟨h', hl⟩, by omega⟩
/-- What is on its way is another row now: made of what was, and what has come. -/
theorem PairRows.putL (h : PairRows w1 w F pb g1 g2 l s t vl vs vt Fl Fs Ft us ut) (hb : w1.heap.size ≤ w.heap.size) {X : Nat → Prop} (hX : ∀ k, X k → F k ∧ k ≠ pb ∧ ¬ Fs k ∧ ¬ Ft k) (hR : Kd.R kFly 80 w9 w1.heap.size (fun k => X k ∨ w.heap.size ≤ k) v1 l') {row : Option Nat} (hg : w.grownBy w9 row) (hrow : ∀ k, row = some k → X k) :
    w9.heap[pb]? = some (.cells #[.pointer (some ⟨g1, 0, none⟩), .pointer (some ⟨g2, 0, none⟩), vl, vs, vt] 55 (0, 0)) ∧ Turns F w (w9.setCell ⟨pb, 2, none⟩ v1) ∧
    PairRows w1 (w9.setCell ⟨pb, 2, none⟩ v1) (Since F w w9) pb g1 g2 l' s t v1 vs vt (fun k => (X k ∨ w.heap.size ≤ k) ∧ k < w9.heap.size) Fs Ft us ut := by
  have hblk : ∀ k, k < w.heap.size → ¬ X k → w9.heap[k]? = w.heap[k]? := fun k hk hn => hg.block k hk (fun e => hn (hrow k e.symm))
  have hz := hg.size
  have hpl := (h.fb pb h.pF).2
  have hp9 := (hblk pb hpl (fun h' => (hX pb h').2.1 rfl)).trans h.blk
  refine ⟨hp9, ((Turns.refl F w).grown hg (fun i e => .inl (hX i (hrow i e)).1)).set (.inl h.pF) v1, ⟨?_, .inl h.pF, ?_, ?_, ?_, ?_, h.ws, h.wt, ?_, ?_, ?_⟩⟩
  · have := blk_set hp9 2 v1
    rw [this]
    rfl
  · intro k hk
    have hsz : (w9.setCell ⟨pb, 2, none⟩ v1).heap.size = w9.heap.size := by simp [World.setCell]
    rw [hsz]
    rcases hk with hk | hk
    · exact ⟨(h.fb k hk).1, by have := (h.fb k hk).2; omega⟩
    · exact ⟨by omega, hk.2⟩
  · refine Kd.R_far (Kd.R_mono (Kd.R_bound hR) (fun k hk => ⟨hk.1, hk.2.2.1⟩)) (fun k hk => ?_) _
    show k ≠ pb
    rcases hk.1 with h' | h'
    · exact (hX k h').2.1
    · omega
  · exact Kd.R_far (Kd.R_step h.rs (fun i hi hl => hblk i hl (fun h' => (hX i h').2.2.1 hi))) (fun i hi => (h.fs i hi).2.1) _
  · exact Kd.R_far (Kd.R_step h.rt (fun i hi hl => hblk i hl (fun h' => (hX i h').2.2.2 hi))) (fun i hi => (h.ft i hi).2) _
  · rintro k ⟨h' | h', hl⟩
    · exact ⟨.inl (hX k h').1, (hX k h').2⟩
    · exact ⟨.inr ⟨h', hl⟩, by omega, fun hf => by have := (h.fb k (h.fs k hf).1).2; omega, fun hf => by have := (h.fb k (h.ft k hf).1).2; omega⟩
  · exact fun k hk => ⟨.inl (h.fs k hk).1, (h.fs k hk).2⟩
  · exact fun k hk => ⟨.inl (h.ft k hk).1, (h.ft k hk).2⟩
end
/-- The pair, told. -/
def PairAt (w1 w : World) (pb g1 g2 : Nat) (p : Pr) : Prop :=
  ∃ F, TwoF 77 w1 w F g1 g2 p.a p.b ∧ ∃ vl vs vt Fl Fs Ft us ut, PairRows w1 w F pb g1 g2 p.l p.s p.t vl vs vt Fl Fs Ft us ut
theorem PairAt.below {w1 w w' : World} {pb g1 g2 : Nat} {p : Pr} (h : PairAt w1 w pb g1 g2 p) (k : Below w.heap.size w w') : PairAt w1 w' pb g1 g2 p := by
  obtain ⟨F, h1, vl, vs, vt, Fl, Fs, Ft, us, ut, h2⟩ := h
  exact ⟨F, h1.below k, vl, vs, vt, Fl, Fs, Ft, us, ut, h2.below k⟩
theorem PairAt.hB {w1 w : World} {pb g1 g2 : Nat} {p : Pr} (h : PairAt w1 w pb g1 g2 p) : Below w1.heap.size w1 w := by
  obtain ⟨F, h1, _⟩ := h
  exact h1.hB
end Go.Proofs.YthfgkkpibkkiaaaDoor
