/- A map of slices in memory that holds files. -/
import Derived.Test.YtbfpmlblnfablaaTurns
import Derived.Test.YtbfpmlblnfablaaDiskP
import Derived.Test.YtbfpmlblnfablaaClone
set_option linter.unusedVariables false
set_option linter.unusedSimpArgs false
namespace Go.Proofs.Ytbfpmlblnfablaa
open Go.RowKit Go.Proofs.YtbfpmlblnfablaaW.PrintWords Go.Proofs.YtbfpmlblnfablaaW.PrintLast

theorem keyS : Maps.Keyed Try.prog 9 := Maps.string_keyed Try.underlying9
theorem underF : Try.prog.underlying 63 = some (.map 9 22) := by kernel_rfl
theorem zeroSl (w : World) : (zeroValue 22).run Try.prog w = .ok (.slice none 0 0) w := by kernel_rfl
def rdSl : Value → Option (DataW Value × List MemPlace)
  | .slice A n c => some (.held (.slice A n c), [])
  | _ => none
theorem rdSl_inv {v : Value} {z : DataW Value × List MemPlace} (h : rdSl v = some z) : (∃ x : Option Addr × Nat × Nat, v = .slice x.1 x.2.1 x.2.2) ∧ z = (.held v, []) := by
  cases v <;> simp [rdSl] at h
  exact ⟨⟨⟨_, _, _⟩, rfl⟩, h.symm⟩
theorem hkey_of {s : ByteArray} (hs : s.size ≤ maxLen) : keyOf Try.prog 9 (.string s) = some (.string s.data.toList) := WideMaps.keyOf_string_mk Try.underlying9 hs
/-- Block b is a map with these names and slices. -/
def OwnM (w : World) (b : Nat) (vs : List (ByteArray × Value)) : Prop := w.ownsMap Try.prog 9 rdSl b vs.length (mapW vs)
theorem own_tight {w : World} {b n : Nat} {vs : List (ByteArray × Value)} (h : w.ownsMap Try.prog 9 rdSl b n (mapW vs)) : OwnM w b vs := by
  obtain ⟨es, clock, hb, F, hs, hD⟩ := h
  refine ⟨es, clock, hb, F, ?_, hD⟩
  have h1 := congrArg Maps.size hD
  simp only [Maps.size, mapW, length_sorted, List.length_map, Array.length_toList] at h1
  omega
theorem own_move {w w' : World} {b n : Nat} {D : DataW Value} (h : w.ownsMap Try.prog 9 rdSl b n D) (hb : w'.heap[b]? = w.heap[b]?) : w'.ownsMap Try.prog 9 rdSl b n D := by
  obtain ⟨es, clock, h1, r⟩ := h
  exact ⟨es, clock, hb.trans h1, r⟩
theorem own_made (w : World) : OwnM (w.alloc (.map #[] 0)) w.heap.size [] := World.ownsMap_made w _ _ _
theorem OwnM.lt {w : World} {b : Nat} {vs : List (ByteArray × Value)} (h : OwnM w b vs) : b < w.heap.size := World.ownsMap.lt h
theorem OwnM.ne {w : World} {b g : Nat} {vs : List (ByteArray × Value)} {cs : Array Value} {t : TypeId} {fr : Nat × Nat} (h : OwnM w b vs) (hg : w.heap[g]? = some (.cells cs t fr)) : g ≠ b := by
  obtain ⟨es, clock, h1, _⟩ := h
  rintro rfl
  rw [h1] at hg
  cases hg
section
variable {w : World} {b : Nat} {vs : List (ByteArray × Value)}
theorem held_inj {a c : Value} (h : (DataW.held a : DataW Value) = .held c) : a = c := DataW.held.inj h
/-- 'v, ok := m[s]'. -/
theorem OwnM.look_ok (h : OwnM w b vs) {s : ByteArray} (hs : s.size ≤ maxLen) :
    (Instr.lookup 63 (.map (some b)) (.string s) true).run Try.prog w = .ok (.tuple #[(look vs s).getD (.slice none 0 0), .bool (look vs s).isSome]) w := by
  obtain ⟨v, ps, hrun, hv⟩ := World.ownsMap.look_ok h keyS underF (zeroSl w) (zd := .held (.slice none 0 0)) (zp := []) rfl (hkey_of hs)
  rw [mapW_has] at hrun
  rw [mapW_at] at hv
  rw [hrun, held_inj (congrArg Prod.fst (rdSl_inv hv).2)]
/-- 'm[s]'. -/
theorem OwnM.look1 (h : OwnM w b vs) {s : ByteArray} (hs : s.size ≤ maxLen) :
    (Instr.lookup 63 (.map (some b)) (.string s) false).run Try.prog w = .ok ((look vs s).getD (.slice none 0 0)) w := by
  obtain ⟨v, ps, hrun, hv⟩ := World.ownsMap.lookup h keyS underF (zeroSl w) (zd := .held (.slice none 0 0)) (zp := []) rfl (hkey_of hs)
  rw [mapW_at] at hv
  rw [hrun, held_inj (congrArg Prod.fst (rdSl_inv hv).2)]
/-- 'm[s] = v'. -/
theorem OwnM.update (h : OwnM w b vs) {s : ByteArray} (hs : s.size ≤ maxLen) (hn : vs.length < maxLen) (A : Option Addr) (n c : Nat) :
    ∃ w', (Instr.mapUpdate 63 (.map (some b)) (.string s) (.slice A n c)).run Try.prog w = .ok () w' ∧ OwnM w' b (put vs s (.slice A n c)) ∧ w.mapTurned w' b := by
  obtain ⟨w', hrun, hown, ht⟩ := World.ownsMap.store h keyS underF hn (hkey_of hs) (d := .held (.slice A n c)) (ps := []) (show rdSl (.slice A n c) = _ from rfl)
  rw [mapW_put] at hown
  exact ⟨w', hrun, own_tight hown, ht⟩
/-- 'delete(m, s)'. -/
theorem OwnM.drop (h : OwnM w b vs) {s : ByteArray} (hs : s.size ≤ maxLen) (ty : TypeId) :
    ∃ w', (Builtin.delete_ #[63, 9] ty #[.map (some b), .string s]).run Try.prog w = .ok (.tuple #[]) w' ∧ OwnM w' b (del vs s) ∧ w.mapTurned w' b := by
  obtain ⟨w', hrun, hown, ht⟩ := World.ownsMap.drop h keyS underF (hkey_of hs) ty
  rw [mapW_del] at hown
  exact ⟨w', hrun, own_tight hown, ht⟩
/-- 'len(m)'. -/
theorem OwnM.len (h : OwnM w b vs) (ty : TypeId) : (Builtin.len_ #[63] ty #[.map (some b)]).run Try.prog w = .ok (.int .i64 (vs.length : Int)) w := by
  have := World.ownsMap.len h underF ty
  simpa [Maps.size] using this
end

/-! ## at the operation, for the walk -/
section
variable (w : World) {ops : Array Oper} {rest : List Oper} {o : Oper} {a : Act} {Q : Exit → Act → World → Prop} {b : Nat} {vs : List (ByteArray × Value)}
theorem wp_look_ok (hg : o.guard = none) (m x : Operand) (hop : o.op = Op.lookup 63 m x true) (hown : OwnM w b vs) (s : ByteArray) (hs : s.size ≤ maxLen) (hm : a.eval m = .map (some b)) (hx : a.eval x = .string s)
    (hK : wpList Try.prog ops Q rest (a.put o.dst (.tuple #[(look vs s).getD (.slice none 0 0), .bool (look vs s).isSome])) w) : wpList Try.prog ops Q (o :: rest) a w := by
  refine wpList_plain hg fun K' hK' => ?_
  unfold Oper.wp
  simp [execOp, hop, hm, hx, hown.look_ok hs, Result.andThen]
  exact hK' _ _ hK
theorem wp_look1 (hg : o.guard = none) (m x : Operand) (hop : o.op = Op.lookup 63 m x false) (hown : OwnM w b vs) (s : ByteArray) (hs : s.size ≤ maxLen) (hm : a.eval m = .map (some b)) (hx : a.eval x = .string s)
    (hK : wpList Try.prog ops Q rest (a.put o.dst ((look vs s).getD (.slice none 0 0))) w) : wpList Try.prog ops Q (o :: rest) a w := by
  refine wpList_plain hg fun K' hK' => ?_
  unfold Oper.wp
  simp [execOp, hop, hm, hx, hown.look1 hs, Result.andThen]
  exact hK' _ _ hK
theorem wp_update (hg : o.guard = none) (m x v : Operand) (hop : o.op = Op.mapUpdate 63 m x v) (hown : OwnM w b vs) (s : ByteArray) (hs : s.size ≤ maxLen) (hn : vs.length < maxLen) (A : Option Addr) (n c : Nat)
    (hm : a.eval m = .map (some b)) (hx : a.eval x = .string s) (hv : a.eval v = .slice A n c)
    (hK : ∀ w', OwnM w' b (put vs s (.slice A n c)) → w.mapTurned w' b → wpList Try.prog ops Q rest (a.put o.dst undef) w') : wpList Try.prog ops Q (o :: rest) a w := by
  refine wpList_plain hg fun K' hK' => ?_
  obtain ⟨w', hrun, r1, r2⟩ := hown.update hs hn A n c
  unfold Oper.wp
  simp [execOp, hop, hm, hx, hv, hrun, Result.andThen]
  exact hK' _ _ (hK w' r1 r2)
theorem wp_delete (hg : o.guard = none) (m x : Operand) (hop : o.op = Op.call { callee := Callee.builtin Builtin.delete, args := #[m, x], argTypes := #[63, 9] }) (hown : OwnM w b vs) (s : ByteArray) (hs : s.size ≤ maxLen)
    (hm : a.eval m = .map (some b)) (hx : a.eval x = .string s) (hK : ∀ w', OwnM w' b (del vs s) → w.mapTurned w' b → wpList Try.prog ops Q rest (a.put o.dst (.tuple #[])) w') : wpList Try.prog ops Q (o :: rest) a w := by
  refine wpList_plain hg fun K' hK' => ?_
  obtain ⟨w', hrun, r1, r2⟩ := hown.drop hs o.type
  unfold Oper.wp
  simp [execOp, hop, resolve, invoke, builtin, hm, hx, hrun, Result.andThen]
  exact hK' _ _ (hK w' r1 r2)
end

/-! ## files -/
/-- A slice of bytes that lies in blocks that S has not. -/
def TextAt (w : World) (S : Nat → Prop) (v : Value) (t : List Int) : Prop := ∃ F, Kd.R (Kd.int .u8) 5 w 0 F v t ∧ ∀ k, F k → ¬ S k
def FileRow (w : World) (S : Nat → Prop) (x : ByteArray × Value) (f : ByteArray × List Int) : Prop := x.1 = f.1 ∧ TextAt w S x.2 f.2
abbrev Files := List (ByteArray × List Int)
def MapAt (w : World) (S : Nat → Prop) (b : Nat) (fs : Files) : Prop := ∃ vs, OwnM w b vs ∧ All2 (FileRow w S) vs fs
section
variable {w w' : World} {S S' : Nat → Prop} {b : Nat} {fs : Files} {v : Value} {t : List Int}
theorem TextAt.slice (h : TextAt w S v t) : ∃ A c, v = .slice A t.length c ∧ t.length ≤ c ∧ Kd.C (Kd.int .u8) w A t.length t := by
  obtain ⟨F, hR, _⟩ := h
  exact Kd.R_reads hR
/-- The world has turned outside of it; S' is of S, and of what is new. -/
theorem TextAt.step (h : TextAt w S v t) (k : Turns S w w') (hs : ∀ i, S' i → S i ∨ w.heap.size ≤ i) : TextAt w' S' v t := by
  obtain ⟨F, hR, hF⟩ := h
  refine ⟨_, Kd.R_mono (Kd.R_step (Kd.R_bound hR) (fun i hi hl => k.block i hl (hF i hi.1))) (fun i hi => (⟨hi.1, hi.2.2.1⟩ : F i ∧ i < w.heap.size)), fun i hi h' => ?_⟩
  rcases hs i h' with h2 | h2
  · exact hF i hi.1 h2
  · omega
theorem TextAt.made {B : Nat} {F : Nat → Prop} (h : Kd.R (Kd.int .u8) 5 w B F v t) (hS : ∀ i, S i → i < B) : TextAt w S v t := by
  refine ⟨_, Kd.R_lower (Kd.R_mono (Kd.R_bound h) (fun i hi => (hi.2.1 : B ≤ i))) (Nat.zero_le _), fun i hi h' => ?_⟩
  have := hS i h'
  omega
theorem FileRow.step {x : ByteArray × Value} {f : ByteArray × List Int} (h : FileRow w S x f) (k : Turns S w w') (hs : ∀ i, S' i → S i ∨ w.heap.size ≤ i) : FileRow w' S' x f := ⟨h.1, h.2.step k hs⟩
theorem fileRow_name : ∀ (a : ByteArray × Value) (b : ByteArray × List Int), FileRow w S a b → a.1 = b.1 := fun _ _ h => h.1
theorem MapAt.move (h : MapAt w S b fs) (k : Turns S w w') (hb : w'.heap[b]? = w.heap[b]?) (hs : ∀ i, S' i → S i ∨ w.heap.size ≤ i) : MapAt w' S' b fs := by
  obtain ⟨vs, h1, h2⟩ := h
  exact ⟨vs, own_move h1 hb, h2.imp (fun _ _ h => h.step k hs)⟩
theorem MapAt.step {S2 : Nat → Prop} (h : MapAt w S b fs) (k : Turns S2 w w') (hb : ¬ S2 b) (hS2 : ∀ i, S2 i → S i) (hs : ∀ i, S' i → S i ∨ w.heap.size ≤ i) : MapAt w' S' b fs := by
  obtain ⟨vs, h1, h2⟩ := id h
  exact h.move (k.mono (fun i hi => .inl (hS2 i hi))) (k.block b h1.lt hb) hs
theorem MapAt.below (h : MapAt w S b fs) (k : Below w.heap.size w w') : MapAt w' S b fs := h.step (S2 := fun _ => False) (Turns.of_below k _) (fun h => h) (fun _ h => h.elim) (fun _ h => .inl h)
theorem MapAt.lt (h : MapAt w S b fs) : b < w.heap.size := by
  obtain ⟨vs, h1, _⟩ := h
  exact h1.lt
theorem MapAt.ne {g : Nat} {cs : Array Value} {t : TypeId} {fr : Nat × Nat} (h : MapAt w S b fs) (hg : w.heap[g]? = some (.cells cs t fr)) : g ≠ b := by
  obtain ⟨vs, h1, _⟩ := h
  exact h1.ne hg
/-- A file is written. -/
theorem MapAt.write (h : MapAt w S b fs) (hSb : S b) {s : ByteArray} {vs : List (ByteArray × Value)} (h2 : All2 (FileRow w S) vs fs) (ht : TextAt w S v t) (hown : OwnM w' b (put vs s v)) (k : w.mapTurned w' b) : MapAt w' S b (put fs s t) := by
  have hT : Turns S w w' := (Turns.refl S w).turned k (.inl hSb)
  exact ⟨_, hown, All2.put fileRow_name (n := s) ⟨rfl, ht.step hT (fun _ h => .inl h)⟩ (h2.imp (fun _ _ h => h.step hT (fun _ h => .inl h)))⟩
theorem MapAt.remove (h : MapAt w S b fs) (hSb : S b) {s : ByteArray} {vs : List (ByteArray × Value)} (h2 : All2 (FileRow w S) vs fs) (hown : OwnM w' b (del vs s)) (k : w.mapTurned w' b) : MapAt w' S b (del fs s) := by
  have hT : Turns S w w' := (Turns.refl S w).turned k (.inl hSb)
  exact ⟨_, hown, All2.del fileRow_name s (h2.imp (fun _ _ h => h.step hT (fun _ h => .inl h)))⟩
end
end Go.Proofs.Ytbfpmlblnfablaa
