/- Ends in memory beside blocks F that are the caller's. -/
import Derived.Test.YthfgkkpibkkiaaaDoorSessI
import Derived.Test.YthfgkkpibkkiaaaDoorOpen
set_option linter.unusedVariables false
set_option linter.unusedSimpArgs false
namespace Go.Proofs.YthfgkkpibkkiaaaDoor
open Go.RowKit Go.Proofs.YthfgkkpibkkiaaaDoorW.PrintWords Go.Proofs.YthfgkkpibkkiaaaDoorW.PrintLast Go.Proofs.YthfgkkpibkkiaaaDoor.PSessionPlays

/-! ## arguments -/
def goodB (l : List Int) : Prop := l.length * 1 ≤ 140737488351232 ∧ ∀ x ∈ l, (Lit.int .u8 x).wf = true
theorem opens_bytes : Opens Tryd.prog 22 kT goodB :=
  Opens.slice Tryd.underlying22 (by kernel_rfl) (B := 1) (by kernel_rfl) (Opens.int Tryd.underlying5)
def goodT (l : List (List Int)) : Prop := l.length * 24 ≤ 140737488351232 ∧ ∀ x ∈ l, goodB x
abbrev kTs : Kd (List (List Int)) := Kd.slice 22 kT
theorem opens_texts : Opens Tryd.prog 45 kTs goodT :=
  Opens.slice Tryd.underlying45 (by kernel_rfl) (B := 24) (by kernel_rfl) opens_bytes
theorem bytes_open {w : World} {l : List Int} {A : Option Addr} {n c : Nat} (h : kT.K w l [.slice A n c]) : n = l.length ∧ n ≤ c ∧ Kd.C (Kd.int .u8) w A n l := by
  obtain ⟨A', c', e, l', hr⟩ := h
  injection e with e _
  injection e with a b c
  subst a b c
  exact ⟨rfl, l', hr⟩
theorem texts_open {w : World} {l : List (List Int)} {A : Option Addr} {n c : Nat} (h : kTs.K w l [.slice A n c]) : n = l.length ∧ n ≤ c ∧ kT.C w A n l := by
  obtain ⟨A', c', e, l', hr⟩ := h
  injection e with e _
  injection e with a b c
  subst a b c
  exact ⟨rfl, l', hr⟩
/-- A block of numbers reads as them. -/
theorem blk_C {w : World} {b : Nat} {l : List Int} {t : TypeId} {fr : Nat × Nat} (h : w.heap[b]? = some (.cells (l.map (Value.int .u8)).toArray t fr)) {n : Nat} (hn : l.length = n) (hl : n ≤ 1000000) : Kd.C (Kd.int .u8) w (some ⟨b, 0, none⟩) n l := by
  refine Kd.C_of_reads (d := (0 : Int)) ⟨hn, by omega, fun _ => ⟨_, rfl, fun j hj => ?_⟩⟩
  rw [show (⟨b, 0, none⟩ : Addr).add j = ⟨b, j, none⟩ by cases j <;> simp [Addr.add]]
  simp [World.cell?, h, List.getElem?_eq_getElem (show j < l.length by omega), List.getD_eq_getElem?_getD]
structure OneF (T : TypeId) (w0 w : World) (F : Nat → Prop) (g : Nat) (e : E) : Prop where
  hB : Below w0.heap.size w0 w
  ex : ∃ S, EndAt T w w0.heap.size g S e ∧ ∀ k, F k → k < w.heap.size ∧ ¬ S k
structure TwoF (T : TypeId) (w0 w : World) (F : Nat → Prop) (g1 g2 : Nat) (e1 e2 : E) : Prop where
  hB : Below w0.heap.size w0 w
  ex : ∃ S1 S2, EndAt T w w0.heap.size g1 S1 e1 ∧ EndAt T w w0.heap.size g2 S2 e2 ∧ (∀ k, S1 k → ¬ S2 k) ∧ ∀ k, F k → k < w.heap.size ∧ ¬ S1 k ∧ ¬ S2 k
/-- The blocks that have come since. -/
def Since (F : Nat → Prop) (w w' : World) (k : Nat) : Prop := F k ∨ (w.heap.size ≤ k ∧ k < w'.heap.size)
section
variable {T : TypeId} {w0 w w' : World} {F F' : Nat → Prop} {g g1 g2 : Nat} {e e' e1 e2 : E}
theorem OneF.made {w1 : World} (h1 : EndAt T w1 w0.heap.size g (fun k => k = g) e) (hB1 : Below w0.heap.size w0 w1) : OneF T w0 w1 (fun _ => False) g e := ⟨hB1, _, h1, fun k h => h.elim⟩
theorem OneF.below (h : OneF T w0 w F g e) (k : Below w.heap.size w w') : OneF T w0 w' F g e := by
  obtain ⟨S, h1, h2⟩ := h.ex
  exact ⟨h.hB.trans (k.mono h.hB.size), S, h1.below k, fun i hi => ⟨Nat.lt_of_lt_of_le (h2 i hi).1 k.size, (h2 i hi).2⟩⟩
theorem OneF.keep (h : OneF T w0 w F g e) (k : Below w.heap.size w w') : OneF T w0 w' (Since F w w') g e := by
  obtain ⟨S, h1, h2⟩ := h.ex
  refine ⟨h.hB.trans (k.mono h.hB.size), S, h1.below k, fun i hi => ?_⟩
  rcases hi with hi | hi
  · exact ⟨Nat.lt_of_lt_of_le (h2 i hi).1 k.size, (h2 i hi).2⟩
  · exact ⟨hi.2, fun hS => by have := (h1.lt i hS).1; omega⟩
theorem OneF.less (h : OneF T w0 w F g e) (hF : ∀ k, F' k → F k) : OneF T w0 w F' g e := by
  obtain ⟨S, h1, h2⟩ := h.ex
  exact ⟨h.hB, S, h1, fun i hi => h2 i (hF i hi)⟩
theorem OneF.step {P : Program} {f : FuncId} {args : Array Value} {Q : Ending → World → Prop} (h : OneF T w0 w F g e) (hc : ∀ S, EndAt T w w0.heap.size g S e → Calls P f args w fun r w' => Q r w' ∧ EndStep T w w' w0.heap.size g S e') :
    Calls P f args w fun r w' => Q r w' ∧ OneF T w0 w' F g e' ∧ Turns (fun k => w0.heap.size ≤ k ∧ ¬ F k) w w' := by
  obtain ⟨S, h1, h2⟩ := h.ex
  refine (hc S h1).mono ?_
  rintro r w' ⟨hq, S', k1, k2, k3⟩
  refine ⟨hq, ⟨h.hB.trans (k3.toBelow h.hB.size (fun i hi => (h1.lt i hi).2)), S', k1, fun i hi => ⟨Nat.lt_of_lt_of_le (h2 i hi).1 k3.size, fun hS => ?_⟩⟩, k3.mono (fun i hi => .inl ⟨(h1.lt i hi).2, fun hF => (h2 i hF).2 hi⟩)⟩
  rcases k2 i hS with h' | h'
  · exact (h2 i hi).2 h'
  · have := (h2 i hi).1
    omega
theorem OneF.look {P : Program} {f : FuncId} {args : Array Value} {Q : Ending → World → Prop} (h : OneF T w0 w F g e) (hc : ∀ S, EndAt T w w0.heap.size g S e → Calls P f args w Q) : Calls P f args w Q := by
  obtain ⟨S, h1, _⟩ := h.ex
  exact hc S h1
/-- What the caller holds turns. -/
theorem OneF.turn (h : OneF T w0 w F g e) (k : Turns F w w') (hb : ∀ i, F i → w0.heap.size ≤ i) : OneF T w0 w' F g e := by
  obtain ⟨S, h1, h2⟩ := h.ex
  exact ⟨h.hB.trans (k.toBelow h.hB.size hb), S, h1.turns k (fun i hi hf => (h2 i hf).2 hi), fun i hi => ⟨Nat.lt_of_lt_of_le (h2 i hi).1 k.size, (h2 i hi).2⟩⟩
theorem OneF.two {w2 : World} (h : OneF T w0 w F g e) (h2 : EndAt T w2 w.heap.size g2 (fun k => k = g2) e2) (hB2 : Below w.heap.size w w2) : TwoF T w0 w2 F g g2 e e2 := by
  obtain ⟨S, h1, h3⟩ := h.ex
  refine ⟨h.hB.trans (hB2.mono h.hB.size), S, _, h1.below hB2, h2.lower h.hB.size, fun k hk hk2 => ?_, fun k hk => ⟨Nat.lt_of_lt_of_le (h3 k hk).1 hB2.size, (h3 k hk).2, fun hk2 => ?_⟩⟩
  · have a := (h1.lt k hk).1
    have b := (h2.lt k hk2).2
    omega
  · have a := (h3 k hk).1
    have b := (h2.lt k hk2).2
    omega
theorem TwoF.swap (h : TwoF T w0 w F g1 g2 e1 e2) : TwoF T w0 w F g2 g1 e2 e1 := by
  obtain ⟨S1, S2, h1, h2, h3, h4⟩ := h.ex
  exact ⟨h.hB, S2, S1, h2, h1, fun k hk h' => h3 k h' hk, fun k hk => ⟨(h4 k hk).1, (h4 k hk).2.2, (h4 k hk).2.1⟩⟩
theorem TwoF.below (h : TwoF T w0 w F g1 g2 e1 e2) (k : Below w.heap.size w w') : TwoF T w0 w' F g1 g2 e1 e2 := by
  obtain ⟨S1, S2, h1, h2, h3, h4⟩ := h.ex
  exact ⟨h.hB.trans (k.mono h.hB.size), S1, S2, h1.below k, h2.below k, h3, fun i hi => ⟨Nat.lt_of_lt_of_le (h4 i hi).1 k.size, (h4 i hi).2⟩⟩
theorem TwoF.keep (h : TwoF T w0 w F g1 g2 e1 e2) (k : Below w.heap.size w w') : TwoF T w0 w' (Since F w w') g1 g2 e1 e2 := by
  obtain ⟨S1, S2, h1, h2, h3, h4⟩ := h.ex
  refine ⟨h.hB.trans (k.mono h.hB.size), S1, S2, h1.below k, h2.below k, h3, fun i hi => ?_⟩
  rcases hi with hi | hi
  · exact ⟨Nat.lt_of_lt_of_le (h4 i hi).1 k.size, (h4 i hi).2⟩
  · exact ⟨hi.2, fun hS => by have := (h1.lt i hS).1; omega, fun hS => by have := (h2.lt i hS).1; omega⟩
theorem TwoF.less (h : TwoF T w0 w F g1 g2 e1 e2) (hF : ∀ k, F' k → F k) : TwoF T w0 w F' g1 g2 e1 e2 := by
  obtain ⟨S1, S2, h1, h2, h3, h4⟩ := h.ex
  exact ⟨h.hB, S1, S2, h1, h2, h3, fun i hi => h4 i (hF i hi)⟩
theorem TwoF.turn (h : TwoF T w0 w F g1 g2 e1 e2) (k : Turns F w w') (hb : ∀ i, F i → w0.heap.size ≤ i) : TwoF T w0 w' F g1 g2 e1 e2 := by
  obtain ⟨S1, S2, h1, h2, h3, h4⟩ := h.ex
  exact ⟨h.hB.trans (k.toBelow h.hB.size hb), S1, S2, h1.turns k (fun i hi hf => (h4 i hf).2.1 hi), h2.turns k (fun i hi hf => (h4 i hf).2.2 hi), h3, fun i hi => ⟨Nat.lt_of_lt_of_le (h4 i hi).1 k.size, (h4 i hi).2⟩⟩
theorem TwoF.step {P : Program} {f : FuncId} {args : Array Value} {Q : Ending → World → Prop} (h : TwoF T w0 w F g1 g2 e1 e2) (hc : ∀ S, EndAt T w w0.heap.size g1 S e1 → Calls P f args w fun r w' => Q r w' ∧ EndStep T w w' w0.heap.size g1 S e') :
    Calls P f args w fun r w' => Q r w' ∧ TwoF T w0 w' F g1 g2 e' e2 ∧ Turns (fun k => w0.heap.size ≤ k ∧ ¬ F k) w w' := by
  obtain ⟨S1, S2, h1, h2, h3, h4⟩ := h.ex
  refine (hc S1 h1).mono ?_
  rintro r w' ⟨hq, S', k1, k2, k3⟩
  refine ⟨hq, ⟨h.hB.trans (k3.toBelow h.hB.size (fun i hi => (h1.lt i hi).2)), S', S2, k1, h2.turns k3 (fun i hi hi' => h3 i hi' hi), fun k hk hk2 => ?_, fun i hi => ⟨Nat.lt_of_lt_of_le (h4 i hi).1 k3.size, fun hS => ?_, (h4 i hi).2.2⟩⟩, k3.mono (fun i hi => .inl ⟨(h1.lt i hi).2, fun hF => (h4 i hF).2.1 hi⟩)⟩
  · rcases k2 k hk with h' | h'
    · exact h3 k h' hk2
    · have := (h2.lt k hk2).1
      omega
  · rcases k2 i hS with h' | h'
    · exact (h4 i hi).2.1 h'
    · have := (h4 i hi).1
      omega
theorem TwoF.look {P : Program} {f : FuncId} {args : Array Value} {Q : Ending → World → Prop} (h : TwoF T w0 w F g1 g2 e1 e2) (hc : ∀ S, EndAt T w w0.heap.size g1 S e1 → Calls P f args w Q) : Calls P f args w Q := by
  obtain ⟨S1, S2, h1, _⟩ := h.ex
  exact hc S1 h1
end
end Go.Proofs.YthfgkkpibkkiaaaDoor
