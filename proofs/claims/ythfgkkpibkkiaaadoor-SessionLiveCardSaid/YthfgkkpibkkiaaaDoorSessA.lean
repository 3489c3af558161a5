/- One end of a session in memory: what it holds, and what a call leaves as it was. -/
import Derived.Test.YthfgkkpibkkiaaaDoorClone
import Derived.Test.YthfgkkpibkkiaaaDoorSessP1
import Derived.Test.YthfgkkpibkkiaaaDoorWLast
set_option linter.unusedVariables false
set_option linter.unusedSimpArgs false
namespace Go.Proofs.YthfgkkpibkkiaaaDoor
open Go.RowKit Go.Proofs.YthfgkkpibkkiaaaDoorW.PrintWords Go.Proofs.YthfgkkpibkkiaaaDoorW.PrintLast Go.Proofs.YthfgkkpibkkiaaaDoor.PSessionPlays

/-- From w to w' no block but those of S turned. -/
structure Turns (S : Nat → Prop) (w w' : World) : Prop where
  os : w'.os = w.os
  tape : w'.tape = w.tape
  output : w'.output = w.output
  size : w.heap.size ≤ w'.heap.size
  block : ∀ k, k < w.heap.size → ¬ S k → w'.heap[k]? = w.heap[k]?
section
variable {S S' : Nat → Prop} {w a b c : World}
theorem Turns.refl (S : Nat → Prop) (w : World) : Turns S w w := ⟨rfl, rfl, rfl, Nat.le_refl _, fun _ _ _ => rfl⟩
theorem Turns.of_below (h : Below a.heap.size a b) (S : Nat → Prop) : Turns S a b := ⟨h.os, h.tape, h.output, h.size, fun k hk _ => h.block k hk⟩
theorem Turns.trans (h : Turns S a b) (k : Turns S' b c) (hs : ∀ i, S' i → S i ∨ a.heap.size ≤ i) : Turns S a c :=
  ⟨k.os.trans h.os, k.tape.trans h.tape, k.output.trans h.output, Nat.le_trans h.size k.size, fun i hi hn => (k.block i (Nat.lt_of_lt_of_le hi h.size) (fun h' => by exact (hs i h').elim (fun h2 => hn h2) (fun h2 => absurd hi (by omega)))).trans (h.block i hi hn)⟩
theorem Turns.mono (h : Turns S a b) (hs : ∀ i, S i → S' i ∨ a.heap.size ≤ i) : Turns S' a b :=
  ⟨h.os, h.tape, h.output, h.size, fun i hi hn => h.block i hi (fun h' => by exact (hs i h').elim (fun h2 => hn h2) (fun h2 => absurd hi (by omega)))⟩
theorem Turns.below (h : Turns S a b) (k : Below b.heap.size b c) : Turns S a c := h.trans (Turns.of_below k (fun _ => False)) (fun _ h => h.elim)
theorem Turns.grown {row : Option Nat} (h : Turns S a b) (k : b.grownBy c row) (hr : ∀ i, row = some i → S i ∨ a.heap.size ≤ i) : Turns S a c :=
  h.trans (S' := fun i => row = some i) ⟨k.os, k.tape, k.output, k.size, fun i hi hn => k.block i hi (fun e => hn e.symm)⟩ hr
theorem Turns.set (h : Turns S a b) {p : Addr} (hp : S p.block ∨ a.heap.size ≤ p.block) (u : Value) : Turns S a (b.setCell p u) :=
  h.trans (S' := fun i => i = p.block) ⟨rfl, rfl, rfl, by simp [World.setCell], fun i hi hn => Below.heap_setCell b p u i hn⟩ (fun i e => by subst e; exact hp)
theorem Turns.drew (h : Turns S a b) : Turns S a b.drew := h.below ((Below.refl _ _).drew)
theorem Turns.toBelow {B : Nat} (h : Turns S a b) (hB : B ≤ a.heap.size) (hs : ∀ i, S i → B ≤ i) : Below B a b :=
  ⟨h.os, h.tape, h.output, h.size, fun i hi => h.block i (by omega) (fun h' => by have := hs i h'; omega)⟩
end
abbrev kT : Kd (List Int) := Kd.slice 5 (Kd.int .u8)
/-- An end, told. -/
structure E where
  ep : Int
  sent : List (List Int)
  there : Nat
  came : List (List Int)
/-- A block with the fields of an end, of type T. -/
def EndCells (T : TypeId) (w : World) (g : Nat) (e : E) (vs vc : Value) : Prop := w.heap[g]? = some (.cells #[.int .i64 e.ep, vs, .int .i64 (e.there : Int), vc] T (0, 0))
/-- An end at block g; S: the blocks that are its own; all from base on. -/
structure EndAt (T : TypeId) (w : World) (base g : Nat) (S : Nat → Prop) (e : E) : Prop where
  row : ∃ vs vc, ∃ Ss Sc : Nat → Prop, EndCells T w g e vs vc ∧ kT.R 22 w base Ss vs e.sent ∧ kT.R 22 w base Sc vc e.came ∧ (∀ k, Ss k → S k ∧ k ≠ g ∧ ¬ Sc k) ∧ (∀ k, Sc k → S k ∧ k ≠ g)
  lt : ∀ k, S k → k < w.heap.size ∧ base ≤ k
  own : S g
section
variable {T : TypeId} {w w' : World} {base g : Nat} {S S' : Nat → Prop} {e : E}
theorem EndAt.glt (h : EndAt T w base g S e) : g < w.heap.size := (h.lt g h.own).1
theorem EndAt.turns (h : EndAt T w base g S e) (k : Turns S' w w') (hs : ∀ i, S i → ¬ S' i) : EndAt T w' base g S e := by
  obtain ⟨vs, vc, Ss, Sc, h1, h2, h3, h4, h5⟩ := h.row
  refine ⟨⟨vs, vc, Ss, Sc, (k.block g h.glt (hs g h.own)).trans h1, Kd.R_step h2 (fun i hi hl => k.block i hl (hs i (h4 i hi).1)), Kd.R_step h3 (fun i hi hl => k.block i hl (hs i (h5 i hi).1)), h4, h5⟩, fun i hi => ⟨Nat.lt_of_lt_of_le (h.lt i hi).1 k.size, (h.lt i hi).2⟩, h.own⟩
theorem EndAt.below (h : EndAt T w base g S e) (k : Below w.heap.size w w') : EndAt T w' base g S e := h.turns (Turns.of_below k (fun _ => False)) (fun _ _ h => h)
/-- What a call at an end leaves: an end again, and all else. -/
def EndStep (T : TypeId) (w w' : World) (base g : Nat) (S : Nat → Prop) (e' : E) : Prop := ∃ S', EndAt T w' base g S' e' ∧ (∀ k, S' k → S k ∨ w.heap.size ≤ k) ∧ Turns S w w'
end
theorem cells4 {W : World} {g : Nat} {a b c d : Value} {t : TypeId} (h : W.heap[g]? = some (.cells #[a, b, c, d] t (0, 0))) :
    W.cell? ⟨g, 0, none⟩ = some a ∧ W.cell? ⟨g, 1, none⟩ = some b ∧ W.cell? ⟨g, 2, none⟩ = some c ∧ W.cell? ⟨g, 3, none⟩ = some d ∧ W.frozen? ⟨g, 0, none⟩ = false ∧ W.frozen? ⟨g, 1, none⟩ = false ∧ W.frozen? ⟨g, 2, none⟩ = false ∧ W.frozen? ⟨g, 3, none⟩ = false :=
  ⟨by simpa using blk_cell h 0, by simpa using blk_cell h 1, by simpa using blk_cell h 2, by simpa using blk_cell h 3, blk_frozen h 0, blk_frozen h 1, blk_frozen h 2, blk_frozen h 3⟩
def okEp (n : Int) : Bool := decide (0 ≤ n ∧ n ≤ 1099511627776)
def okN (n : Int) : Bool := decide (0 ≤ n ∧ n ≤ 1073741824)
set_option maxRecDepth 100000 in
theorem new_any (ep : Int) (w : World) :
    Calls Tryd.prog 17 #[.int .i64 ep] w fun r w' => (okEp ep = false ∧ r = .returned (.pointer none) ∧ Below w.heap.size w w') ∨
      (okEp ep = true ∧ ∃ g, r = .returned (.pointer (some ⟨g, 0, none⟩)) ∧ EndAt 77 w' w.heap.size g (fun k => k = g) ⟨ep, [], 0, []⟩ ∧ Below w.heap.size w w') := by
  have hw := session_within_int64.calls ep 1099511627776 (okEp ep) w (by
    unfold session_within_int64.f okEp
    by_cases h : ep ≥ 0
    · rw [if_pos h]
      congr 1
      rw [decide_eq_decide]
      omega
    · rw [if_neg h]
      congr 1
      symm
      rw [decide_eq_false_iff_not]
      omega)
  obtain ⟨q, hq⟩ : ∃ q, q = okEp ep := ⟨_, rfl⟩
  rw [← hq] at hw ⊢
  have HW := Lib.hid hw
  clear hw hq
  go_enter Tryd.func17, Tryd.ntmps17
  go_wp2_with fail
  refine HW.out.mono ?_
  rintro e w1 ⟨rfl, hD⟩
  have HB := Lib.hid hD.below
  clear hD
  cases q with
  | false =>
    go_wp2_with fail
    go_ret
    exact ⟨rfl, HB.out⟩
  | true =>
    go_wp2_with fail
    go_ret
    refine ⟨_, rfl, ?_, HB.out.alloc HB.out.size _⟩
    exact ⟨⟨_, _, fun _ => False, fun _ => False, heap_alloc_new w1 _, Kd.R_nil _ _ _ _ _, Kd.R_nil _ _ _ _ _, fun k h => h.elim, fun k h => h.elim⟩, fun k hk => by subst hk; exact ⟨by simp, HB.out.size⟩, rfl⟩
end Go.Proofs.YthfgkkpibkkiaaaDoor
