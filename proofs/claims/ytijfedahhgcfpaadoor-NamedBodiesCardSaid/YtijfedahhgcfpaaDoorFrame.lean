import Derived.Below
import Derived.Deep.Draws
import Derived.Conc.LoneCalls
import Derived.Lib.Hide
set_option linter.unusedVariables false
namespace Go.Proofs.YtijfedahhgcfpaaDoor
open Go.RowKit Go.Conc

theorem gb_refl (w : World) (row : Option Nat) : w.grownBy w row := ⟨rfl, rfl, rfl, Nat.le_refl _, fun _ _ _ => rfl⟩
theorem gb_trans {a b c : World} {row : Option Nat} (h : a.grownBy b row) (k : b.grownBy c row) : a.grownBy c row :=
  ⟨k.os.trans h.os, k.tape.trans h.tape, k.output.trans h.output, Nat.le_trans h.size k.size, fun i hi hne => (k.block i (Nat.lt_of_lt_of_le hi h.size) hne).trans (h.block i hi hne)⟩
theorem gb_below {a b : World} (h : Below a.heap.size a b) (row : Option Nat) : a.grownBy b row := ⟨h.os, h.tape, h.output, h.size, fun i hi _ => h.block i hi⟩
/-- Then a step that has turned nothing that was there. -/
theorem gb_then {a b c : World} {row : Option Nat} (h : a.grownBy b row) (k : Below b.heap.size b c) : a.grownBy c row := gb_trans h (gb_below k row)
theorem gb_alloc {a b : World} {row : Option Nat} (h : a.grownBy b row) (o : Obj) : a.grownBy (b.alloc o) row :=
  gb_then h ((Below.refl _ _).alloc (Nat.le_refl _) o)
theorem gb_drewN {a b : World} {row : Option Nat} (h : a.grownBy b row) (n : Nat) : a.grownBy (b.drewN n) row := ⟨h.os, h.tape, h.output, h.size, h.block⟩
theorem gb_drew {a b : World} {row : Option Nat} (h : a.grownBy b row) : a.grownBy b.drew row := ⟨h.os, h.tape, h.output, h.size, h.block⟩
/-- A store into what is new, or into the row. -/
theorem gb_setCell {a b : World} {row : Option Nat} (h : a.grownBy b row) {p : Addr} (hp : row = some p.block ∨ a.heap.size ≤ p.block) (u : Value) : a.grownBy (b.setCell p u) row :=
  ⟨h.os, h.tape, h.output, by simpa [World.setCell] using h.size, fun i hi hne => (Below.heap_setCell b p u i (by
    rintro rfl
    rcases hp with hp | hp
    · exact hne hp.symm
    · omega)).trans (h.block i hi hne)⟩
theorem gb_setChan {a b : World} {c : Nat} (h : a.grownBy b (some c)) (cap : Nat) (buf : Array Value) (cl : Bool) (s r : Nat) (tm : Bool) : a.grownBy (b.setChan c cap buf cl s r tm) (some c) :=
  ⟨h.os, h.tape, h.output, by simpa [World.setChan] using h.size, fun i hi hne => by
    have : (b.setChan c cap buf cl s r tm).heap[i]? = b.heap[i]? := by
      simp only [World.setChan]
      rw [Array.getElem?_setIfInBounds_ne (fun e => hne (by rw [e]))]
    exact this.trans (h.block i hi hne)⟩
theorem gb_blk {a b : World} {row : Option Nat} {g : Nat} {o : Obj} (h : a.grownBy b row) (hg : a.heap[g]? = some o) (hne : some g ≠ row) : b.heap[g]? = some o :=
  (h.block g (Array.getElem?_eq_some_iff.1 hg).1 hne).trans hg
/-- Where the row is one of the call's own, nothing that was there has turned. -/
theorem gb_to_below {B : Nat} {a b : World} {row : Option Nat} (h : a.grownBy b row) (hB : B ≤ a.heap.size) (hr : ∀ k, row = some k → B ≤ k) : Below B a b :=
  (Below.refl B a).grown h hB hr
theorem gb_none {a b : World} (h : a.grownBy b none) : Below a.heap.size a b := gb_to_below h (Nat.le_refl _) (fun k e => by cases e)
/-- The row was new: it is none. -/
theorem gb_new {a b : World} {k : Nat} (h : a.grownBy b (some k)) (hk : a.heap.size ≤ k) (row : Option Nat) : a.grownBy b row :=
  ⟨h.os, h.tape, h.output, h.size, fun i hi _ => h.block i hi (by intro e; cases e; omega)⟩
theorem gb_row {a b : World} (h : a.grownBy b none) (row : Option Nat) : a.grownBy b row := gb_below (gb_none h) row
/-- Then a step that has turned one block alone, a new one. -/
theorem gb_trans_new {a b c : World} {row : Option Nat} {ob : Nat} (h : a.grownBy b row) (k : b.grownBy c (some ob)) (ho : a.heap.size ≤ ob) : a.grownBy c row :=
  ⟨k.os.trans h.os, k.tape.trans h.tape, k.output.trans h.output, Nat.le_trans h.size k.size, fun i hi hne => (k.block i (Nat.lt_of_lt_of_le hi h.size) (fun e => by cases e; omega)).trans (h.block i hi hne)⟩
theorem blk_setChan_other (w : World) (c c' cap : Nat) (buf : Array Value) (closed : Bool) (s r : Nat) (tm : Bool) (h : c' ≠ c) : (w.setChan c cap buf closed s r tm).heap[c']? = w.heap[c']? := by
  simp only [World.setChan]
  rw [Array.getElem?_setIfInBounds_ne (fun e => h e.symm)]
end Go.Proofs.YtijfedahhgcfpaaDoor
