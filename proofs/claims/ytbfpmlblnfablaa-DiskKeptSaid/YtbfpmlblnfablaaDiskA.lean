/- Changes of files as closures; what a closure does to a map. -/
import Derived.Test.YtbfpmlblnfablaaDiskM
set_option linter.unusedVariables false
set_option linter.unusedSimpArgs false
namespace Go.Proofs.Ytbfpmlblnfablaa
open Go.RowKit Go.Proofs.YtbfpmlblnfablaaW.PrintWords Go.Proofs.YtbfpmlblnfablaaW.PrintLast

/-- A change: t is written to a (k = 0); a gets the name b (1); a is removed. -/
structure Chg where
  k : Nat
  a : ByteArray
  b : ByteArray
  t : List Int
def appl (fs : Files) (c : Chg) : Files :=
  if c.k = 0 then put fs c.a c.t else if c.k = 1 then (match look fs c.a with | some t => put (del fs c.a) c.b t | none => fs) else del fs c.a
theorem length_appl (fs : Files) (c : Chg) : (appl fs c).length ≤ fs.length + 1 := by
  unfold appl
  split
  · exact length_put _ _ _
  · split
    · split
      · have := length_put (del fs c.a) c.b (by assumption)
        have := length_del fs c.a
        omega
      · omega
    · have := length_del fs c.a
      omega
/-- A cell of its own, in a block that S has not. -/
def Box (w : World) (S : Nat → Prop) (b : Nat) (v : Value) : Prop := w.cell? ⟨b, 0, none⟩ = some v ∧ ¬ S b
abbrev FnV := Nat × Array Value
def encFn (x : FnV) : Value := .func (.func x.1) #[] x.2
abbrev kFn : Kd FnV := Kd.scalar encFn (fun _ => rfl)
abbrev pt (b : Nat) : Value := .pointer (some ⟨b, 0, none⟩)
/-- A closure that does a change. -/
def FnAt (w : World) (S : Nat → Prop) (x : FnV) (c : Chg) : Prop :=
  c.a.size ≤ maxLen ∧ c.b.size ≤ maxLen ∧
  ((c.k = 0 ∧ ∃ b1 b2 v, x = (36, #[pt b1, pt b2]) ∧ Box w S b1 v ∧ TextAt w S v c.t ∧ Box w S b2 (.string c.a)) ∨
   (c.k = 1 ∧ ∃ b1 b2, x = (41, #[pt b1, pt b2]) ∧ Box w S b1 (.string c.a) ∧ Box w S b2 (.string c.b)) ∨
   (c.k = 2 ∧ ∃ b1, x = (60, #[pt b1]) ∧ Box w S b1 (.string c.a)))
section
variable {w w' : World} {S S' : Nat → Prop}
theorem Box.lt {b : Nat} {v : Value} (h : Box w S b v) : b < w.heap.size := World.block_lt_of_cell? w _ h.1
theorem Box.step {b : Nat} {v : Value} (h : Box w S b v) (k : Turns S w w') (hs : ∀ i, S' i → S i ∨ w.heap.size ≤ i) : Box w' S' b v := by
  refine ⟨?_, fun h' => ?_⟩
  · have hb := k.block b h.lt h.2
    have h1 := h.1
    unfold World.cell? at h1 ⊢
    simp only [hb]
    exact h1
  · rcases hs b h' with h2 | h2
    · exact h.2 h2
    · have := h.lt
      omega
theorem FnAt.step {x : FnV} {c : Chg} (h : FnAt w S x c) (k : Turns S w w') (hs : ∀ i, S' i → S i ∨ w.heap.size ≤ i) : FnAt w' S' x c := by
  obtain ⟨ha, hb, h⟩ := h
  refine ⟨ha, hb, ?_⟩
  rcases h with ⟨h0, b1, b2, v, e, h1, h2, h3⟩ | ⟨h0, b1, b2, e, h1, h2⟩ | ⟨h0, b1, e, h1⟩
  · exact .inl ⟨h0, b1, b2, v, e, h1.step k hs, h2.step k hs, h3.step k hs⟩
  · exact .inr (.inl ⟨h0, b1, b2, e, h1.step k hs, h2.step k hs⟩)
  · exact .inr (.inr ⟨h0, b1, e, h1.step k hs⟩)
end
set_option maxRecDepth 100000 in
theorem do_write (w : World) (b b1 b2 : Nat) (vs : List (ByteArray × Value)) (s : ByteArray) (hs : s.size ≤ maxLen) (hn : vs.length < maxLen) (A : Option Addr) (n c : Nat) (hown : OwnM w b vs)
    (h1 : w.cell? ⟨b1, 0, none⟩ = some (.slice A n c)) (h2 : w.cell? ⟨b2, 0, none⟩ = some (.string s)) :
    Calls Try.prog 36 #[.map (some b), pt b1, pt b2] w fun e w' => e = .returned (.tuple #[]) ∧ OwnM w' b (put vs s (.slice A n c)) ∧ w.mapTurned w' b := by
  go_enter Try.func36, Try.ntmps36
  go_wp2_with (first
    | (at_mapUpdate; refine wp_update _ rfl _ _ _ rfl hown s hs hn A n c rfl rfl rfl ?_; intro w1 ho1 ht1)
    | go_in)
  go_end0
  exact ⟨rfl, ho1, ht1⟩
set_option maxRecDepth 100000 in
theorem do_remove (w : World) (b b1 : Nat) (vs : List (ByteArray × Value)) (s : ByteArray) (hs : s.size ≤ maxLen) (hown : OwnM w b vs) (h1 : w.cell? ⟨b1, 0, none⟩ = some (.string s)) :
    Calls Try.prog 60 #[.map (some b), pt b1] w fun e w' => e = .returned (.tuple #[]) ∧ OwnM w' b (del vs s) ∧ w.mapTurned w' b := by
  go_enter Try.func60, Try.ntmps60
  go_wp2_with (first
    | (at_delete; refine wp_delete _ rfl _ _ rfl hown s hs rfl rfl ?_; intro w1 ho1 ht1)
    | go_in)
  go_end0
  exact ⟨rfl, ho1, ht1⟩
set_option maxRecDepth 100000 in
theorem do_rename (w : World) (b b1 b2 : Nat) (vs : List (ByteArray × Value)) (s s2 : ByteArray) (hs : s.size ≤ maxLen) (hs2 : s2.size ≤ maxLen) (hn : vs.length < maxLen) (hown : OwnM w b vs)
    (hsl : ∀ v, look vs s = some v → ∃ A n c, v = .slice A n c) (h1 : w.cell? ⟨b1, 0, none⟩ = some (.string s)) (h2 : w.cell? ⟨b2, 0, none⟩ = some (.string s2)) (hb : b ≠ b2) :
    Calls Try.prog 41 #[.map (some b), pt b1, pt b2] w fun e w' => e = .returned (.tuple #[]) ∧ OwnM w' b (match look vs s with | some v => put (del vs s) s2 v | none => vs) ∧ w.mapTurned w' b := by
  have hd : (del vs s).length < maxLen := Nat.lt_of_le_of_lt (length_del _ _) hn
  have HN := Lib.hid hd
  clear hd hn
  cases hl : look vs s with
  | none =>
    have hlk := hown.look_ok hs
    rw [hl] at hlk
    simp only [Option.getD_none, Option.isSome_none] at hlk
    clear hl hsl
    go_enter Try.func41, Try.ntmps41
    go_wp2_with fail
    go_end0
    exact ⟨rfl, hown, World.ownsMap.turned_refl hown⟩
  | some v =>
    obtain ⟨A, n, c, rfl⟩ := hsl v hl
    have hlk := hown.look_ok hs
    rw [hl] at hlk
    simp only [Option.getD_some, Option.isSome_some] at hlk
    clear hl hsl
    go_enter Try.func41, Try.ntmps41
    go_wp2_with (first
      | (at_delete; refine wp_delete _ rfl _ _ rfl hown s hs rfl rfl ?_; intro w1 ho1 ht1; have h2' := ht1.grown.cell h2 (fun e => hb (by cases e; rfl)))
      | (at_mapUpdate; refine wp_update _ rfl _ _ _ rfl ho1 s2 hs2 HN.out A n c rfl rfl rfl ?_; intro w2 ho2 ht2)
      | go_in)
    go_end0
    exact ⟨rfl, ho2, ht1.trans ht2⟩
end Go.Proofs.Ytbfpmlblnfablaa
