/- What a call may turn: the blocks of a set. -/
import Derived.Test.YtbfpmlblnfablaaWWords
import Derived.Test.YtbfpmlblnfablaaWLast
import Derived.Maps.OwnSet
set_option linter.unusedVariables false
set_option linter.unusedSimpArgs false
namespace Go.Proofs.Ytbfpmlblnfablaa
open Go.RowKit Go.Proofs.YtbfpmlblnfablaaW.PrintWords Go.Proofs.YtbfpmlblnfablaaW.PrintLast

/-- From w to w' no block but those of S turned. -/
structure Turns (S : Nat → Prop) (w w' : World) : Prop where
  os : w'.os = w.os
  tape : w'.tape = w.tape
  output : w'.output = w.output
  size : w.heap.size ≤ w'.heap.size
  block : ∀ k, k < w.heap.size → ¬ S k → w'.heap[k]? = w.heap[k]?
section
variable {S S' : Nat → Prop} {w a b c : World}
theorem Turns.refl (S : Nat → Prop) (w : World) : Turns S w w := ⟨rfl, rfl, rfl, Nat.le_refl _, fun _ _ _ => rfl⟩
theorem Turns.of_below (h : Below a.heap.size a b) (S : Nat → Prop) : Turns S a b := ⟨h.os, h.tape, h.output, h.size, fun k hk _ => h.block k hk⟩
theorem Turns.trans (h : Turns S a b) (k : Turns S' b c) (hs : ∀ i, S' i → S i ∨ a.heap.size ≤ i) : Turns S a c :=
  ⟨k.os.trans h.os, k.tape.trans h.tape, k.output.trans h.output, Nat.le_trans h.size k.size, fun i hi hn => (k.block i (Nat.lt_of_lt_of_le hi h.size) (fun h' => by exact (hs i h').elim (fun h2 => hn h2) (fun h2 => absurd hi (by omega)))).trans (h.block i hi hn)⟩
theorem Turns.mono (h : Turns S a b) (hs : ∀ i, S i → S' i ∨ a.heap.size ≤ i) : Turns S' a b :=
  ⟨h.os, h.tape, h.output, h.size, fun i hi hn => h.block i hi (fun h' => by exact (hs i h').elim (fun h2 => hn h2) (fun h2 => absurd hi (by omega)))⟩
theorem Turns.below (h : Turns S a b) (k : Below b.heap.size b c) : Turns S a c := h.trans (Turns.of_below k (fun _ => False)) (fun _ h => h.elim)
theorem Turns.grown {row : Option Nat} (h : Turns S a b) (k : b.grownBy c row) (hr : ∀ i, row = some i → S i ∨ a.heap.size ≤ i) : Turns S a c :=
  h.trans (S' := fun i => row = some i) ⟨k.os, k.tape, k.output, k.size, fun i hi hn => k.block i hi (fun e => hn e.symm)⟩ hr
theorem Turns.set (h : Turns S a b) {p : Addr} (hp : S p.block ∨ a.heap.size ≤ p.block) (u : Value) : Turns S a (b.setCell p u) :=
  h.trans (S' := fun i => i = p.block) ⟨rfl, rfl, rfl, by simp [World.setCell], fun i hi hn => Below.heap_setCell b p u i hn⟩ (fun i e => by subst e; exact hp)
theorem Turns.drew (h : Turns S a b) : Turns S a b.drew := h.below ((Below.refl _ _).drew)
theorem Turns.toBelow {B : Nat} (h : Turns S a b) (hB : B ≤ a.heap.size) (hs : ∀ i, S i → B ≤ i) : Below B a b :=
  ⟨h.os, h.tape, h.output, h.size, fun i hi => h.block i (by omega) (fun h' => by have := hs i h'; omega)⟩
end
theorem Turns.turned {S : Nat → Prop} {a b c : World} {m : Nat} (h : Turns S a b) (k : b.mapTurned c m) (hs : S m ∨ a.heap.size ≤ m) : Turns S a c := h.grown k.grown (fun i e => by cases e; exact hs)
end Go.Proofs.Ytbfpmlblnfablaa
