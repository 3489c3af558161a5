/- A disk in memory beside blocks F that are the caller's. -/
import Derived.Test.YtbfpmlblnfablaaDiskK
set_option linter.unusedVariables false
set_option linter.unusedSimpArgs false
namespace Go.Proofs.Ytbfpmlblnfablaa
open Go.RowKit Go.Proofs.YtbfpmlblnfablaaW.PrintWords Go.Proofs.YtbfpmlblnfablaaW.PrintLast Go.Proofs.YtbfpmlblnfablaaW.PrintMore

/-- A disk of the call's own; F: blocks from base on that are no part of it (the caller's rows and boxes). -/
structure DiskF (w0 w : World) (F : Nat → Prop) (g : Nat) (d : D) : Prop where
  hB : Below w0.heap.size w0 w
  ex : ∃ S, DiskAt w w0.heap.size g S d ∧ ∀ k, F k → k < w.heap.size ∧ ¬ S k
/-- The blocks that have come since. -/
def Since (F : Nat → Prop) (w w' : World) (k : Nat) : Prop := F k ∨ (w.heap.size ≤ k ∧ k < w'.heap.size)
section
variable {w0 w w' : World} {F F' : Nat → Prop} {g : Nat} {d d' : D}
theorem DiskF.below (h : DiskF w0 w F g d) (k : Below w.heap.size w w') : DiskF w0 w' F g d := by
  obtain ⟨S, h1, h2⟩ := h.ex
  exact ⟨h.hB.trans (k.mono h.hB.size), S, h1.below k, fun i hi => ⟨Nat.lt_of_lt_of_le (h2 i hi).1 k.size, (h2 i hi).2⟩⟩
theorem DiskF.keep (h : DiskF w0 w F g d) (k : Below w.heap.size w w') : DiskF w0 w' (Since F w w') g d := by
  obtain ⟨S, h1, h2⟩ := h.ex
  refine ⟨h.hB.trans (k.mono h.hB.size), S, h1.below k, fun i hi => ?_⟩
  rcases hi with hi | hi
  · exact ⟨Nat.lt_of_lt_of_le (h2 i hi).1 k.size, (h2 i hi).2⟩
  · exact ⟨hi.2, fun hS => by have := (h1.lt i hS).1; omega⟩
theorem DiskF.less (h : DiskF w0 w F g d) (hF : ∀ k, F' k → F k) : DiskF w0 w F' g d := by
  obtain ⟨S, h1, h2⟩ := h.ex
  exact ⟨h.hB, S, h1, fun i hi => h2 i (hF i hi)⟩
theorem DiskF.step {P : Program} {f : FuncId} {args : Array Value} {Q : Ending → World → Prop} (h : DiskF w0 w F g d) (hc : ∀ S, DiskAt w w0.heap.size g S d → Calls P f args w fun r w' => Q r w' ∧ DiskStep w w' w0.heap.size g S d') :
    Calls P f args w fun r w' => Q r w' ∧ DiskF w0 w' F g d' ∧ Turns (fun k => w0.heap.size ≤ k ∧ ¬ F k) w w' := by
  obtain ⟨S, h1, h2⟩ := h.ex
  refine (hc S h1).mono ?_
  rintro r w' ⟨hq, S', k1, k2, k3⟩
  refine ⟨hq, ⟨h.hB.trans (k3.toBelow h.hB.size (fun i hi => (h1.lt i hi).2)), S', k1, fun i hi => ⟨Nat.lt_of_lt_of_le (h2 i hi).1 k3.size, fun hS => ?_⟩⟩, k3.mono (fun i hi => .inl ⟨(h1.lt i hi).2, fun hF => (h2 i hF).2 hi⟩)⟩
  rcases k2 i hS with h' | h'
  · exact (h2 i hi).2 h'
  · have := (h2 i hi).1
    omega
theorem DiskF.look {P : Program} {f : FuncId} {args : Array Value} {Q : Ending → World → Prop} (h : DiskF w0 w F g d) (hc : ∀ S, DiskAt w w0.heap.size g S d → Calls P f args w Q) : Calls P f args w Q := by
  obtain ⟨S, h1, _⟩ := h.ex
  exact hc S h1
end
theorem new_F (room : Int) (w0 w : World) (hB : Below w0.heap.size w0 w) (F : Nat → Prop) (hF : ∀ k, F k → k < w.heap.size) :
    Calls Try.prog 11 #[.int .i64 room] w fun r w' => ∃ g, r = .returned (pt g) ∧ DiskF w0 w' F g (newD room) ∧ Below w.heap.size w w' := by
  refine (new_any room w).mono ?_
  rintro r w' ⟨g, rfl, h, hB'⟩
  refine ⟨g, rfl, ⟨hB.trans (hB'.mono hB.size), _, ⟨?_, fun k hk => ⟨(h.lt k hk).1, Nat.le_trans hB.size (h.lt k hk).2⟩, h.own⟩, fun k hk => ⟨Nat.lt_of_lt_of_le (hF k hk) hB'.size, fun hS => ?_⟩⟩, hB'⟩
  · obtain ⟨bn, bs, vc, cs, Sc, hc, hp⟩ := h.row
    exact ⟨bn, bs, vc, cs, Sc, hc, ⟨hp.now, hp.old, Kd.R_lower hp.row hB.size, hp.fns, hp.sc, hp.sn, hp.ss, hp.ne⟩⟩
  · have := (h.lt k hS).2
    have := hF k hk
    omega
/-! ## the numbers stay small -/
theorem Small.off {d : D} (h : Small d) : Small { d with down := true } := ⟨h.now, h.old, h.ch, h.acts, h.fuse, h.room, h.each⟩
end Go.Proofs.Ytbfpmlblnfablaa
