/- A range over a function whose iterator keeps its state in a cell of its own (a captured variable): the statement's law, for a caller that stands outside of any round. (As XSeqA; the round knows besides that what has come is a beginning of what comes.) -/
import Derived.RangeFuncWrites
import Derived.RangeFuncNested
import Derived.RangeFuncBound
import Derived.RangeFuncCalls
import Derived.Below
set_option linter.unusedVariables false
namespace Go.Proofs.YtmhpnidhokcaeaaDoor
open Go Go.RowKit

/-- How a round's body may be left: off its end, or by 'ret'. -/
def roundEnds {α : Type} (I Ix : List α → World → Prop) (xs : List α) (W : World) : Exit → Act → World → Prop
  | .normal, _, W' => KeepsOthers W W' ∧ I xs W'
  | .ret, _, W' => KeepsOthers W W' ∧ Ix xs W'
  | _, _, _ => False
/-- What a contract of such an iterator says, at the function gf with what it has captured, of one loop: J before a round, Jx behind one that has said 'no more'; it may write the cell at p between rounds. -/
def SeqCell {α : Type} (n : Nat) (P : Program) (gf : Nat) (lb : Array Value) (enc : α → Array Value) (K : World → Prop) (p : Addr) (xs : List α) (W : World) : Prop :=
  ∀ (l : Nat) (J Jx : List α → World → Prop), (∀ pre A, J pre A → K A) →
    (∀ pre A v, J pre A → J pre (A.setCell p v)) →
    (∀ pre x A, pre ++ [x] <+: xs → J pre A → YieldAt Fence.wide (n - 1) P l (enc x) A fun e B => (e = .returned (.bool true) ∧ J (pre ++ [x]) B ∧ B.cell? p = A.cell? p ∧ B.frozen? p = A.frozen? p) ∨ (e = .returned (.bool false) ∧ Jx (pre ++ [x]) B)) →
    ∀ A, J [] A → A.cell? p = W.cell? p → A.frozen? p = W.frozen? p →
    CallsIn Fence.wide n P gf (#[.func (.yield l) #[] #[]] ++ lb) A fun e B => (∃ v, e = .returned v) ∧ (J xs B ∨ ∃ pre, pre <+: xs ∧ Jx pre B)

theorem block_setCell (W : World) (p : Addr) (v : Value) {k : Nat} (hk : k ≠ p.block) : (W.setCell p v).heap[k]? = W.heap[k]? := Below.heap_setCell W p v k hk

set_option maxHeartbeats 2000000 in
theorem range_cell {α : Type} {n : Nat} {P : Program} {g : Operand} {ps : Array Tmp} {assign body : Code} {Q : Exit → Act → World → Prop} {a : Act} {w : World}
    {gf : Nat} {lb : Array Value} (hg : a.eval g = .func (.func gf) #[] lb) (eg : ∀ args w, (callFunc gf args).run P w = .ok (.enter gf args) w)
    {enc : α → Array Value} {K : World → Prop} {p : Addr} {xs : List α} (hp : p.block < w.heap.size) (hseq : SeqCell (n - 1) P gf lb enc K p xs w) (hps : ∀ x, (enc x).size = ps.size)
    (I Ix : List α → World → Prop)
    (hIa : ∀ s A o, I s A → I s (A.alloc o)) (hIp : ∀ s A k o o', I s A → w.heap.size ≤ k → A.heap[k]? = some o' → o'.isCells = false → I s (A.putObj k o)) (hXp : ∀ s A k o o', Ix s A → w.heap.size ≤ k → A.heap[k]? = some o' → o'.isCells = false → Ix s (A.putObj k o))
    (hIc : ∀ s A v, I s A → I s (A.setCell p v)) (hIK : ∀ s A, I s A → K A) (h0 : I [] w) (a₁ : α → Act)
    (hassign : ∀ (l : Nat) (x : α) (W : World) (Ka : Act → World → Prop), Ka (a₁ x) W →
      assign.wpIn (Fence.wide.inRound l) (n - 1 - 1) P (Exit.then Ka (fun _ _ _ => False)) { tmps := (ps.zip (enc x)).foldl (fun t (p, v) => t.setIfInBounds p v) a.tmps, defers := [] } W)
    (hbody : ∀ (l : Nat) (pre : List α) (x : α) (W : World), pre ++ [x] <+: xs → I pre W → body.wpIn (Fence.wide.inRound l) (n - 1 - 1) P (fun e a' W' => roundEnds I Ix (pre ++ [x]) W e a' W' ∧ (e = .normal → W'.cell? p = W.cell? p ∧ W'.frozen? p = W.frozen? p)) (a₁ x) W)
    (hdone : ∀ (D : Nat) (W : World), w.heap.size ≤ D → I xs W → W.heap[D]? = some (.deferred (some [])) → Q .normal { a with defers := { target := .collected D, args := #[] } :: a.defers } W)
    (hstop : ∀ (D : Nat) (pre : List α) (W : World), w.heap.size ≤ D → pre <+: xs → Ix pre W → W.heap[D]? = some (.deferred (some [])) → Code.ret.wpIn Fence.wide n P Q { a with defers := { target := .collected D, args := #[] } :: a.defers } W)
    (hn : 1 ≤ n) :
    (Code.rangeFunc g ps assign body).wpIn Fence.wide n P Q a w := by
  refine wpIn_rangeFunc ?_
  intro fn hfn
  rw [show Fence.wide.round = none from rfl]
  let rec0 : LoopState → Option Code → Loop := fun st pe => { state := st, pending := pe, fn, tmps := a.tmps, params := ps, assign, body, defers := w.heap.size }
  obtain ⟨rc, hrc⟩ : ∃ rc, rc = rec0 := ⟨_, rfl⟩
  obtain ⟨W1, hW1⟩ : ∃ W1, W1 = (w.alloc (.deferred (some []))).alloc (.loop (rc .ready none)) := ⟨_, rfl⟩
  have z1 : (w.alloc (.deferred (some []))).heap.size = w.heap.size + 1 := by simp
  have hL : W1.heap[w.heap.size + 1]? = some (.loop (rc .ready none)) := by
    rw [hW1]
    have := World.alloc_heap_new (w.alloc (.deferred (some []))) (.loop (rc .ready none))
    rwa [z1] at this
  have hD : W1.heap[w.heap.size]? = some (.deferred (some [])) := by
    rw [hW1]
    exact (Below.heap_alloc _ _ _ (by rw [z1]; omega)).trans (World.alloc_heap_new w _)
  have hB1 : Below w.heap.size w W1 := by
    rw [hW1]
    exact ((Below.refl _ w).alloc (Nat.le_refl _) _).alloc (by rw [z1]; omega) _
  have hI1 : I [] W1 := by
    rw [hW1]
    exact hIa _ _ _ (hIa _ _ _ h0)
  have hpar : ∀ st pe, (rc st pe).params = ps ∧ (rc st pe).state = st ∧ (rc st pe).pending = pe := fun st pe => by rw [hrc]; exact ⟨rfl, rfl, rfl⟩
  refine ⟨w.heap.size + 1, [{ target := .collected w.heap.size, args := #[] }], W1, { target := .fn (.func gf) lb, args := #[.func (.yield (w.heap.size + 1)) #[] #[]] }, W1, gf, #[.func (.yield (w.heap.size + 1)) #[] #[]] ++ lb, W1, ?_, ?_, fun _ _ => trivial, ?_, fun _ => hn, ?_⟩
  · rw [hW1, hrc]
    exact run_enterLoop_outer _ _ _ _ _
  · simp only [resolve, hg]
    simp [go_sem]
  · simp [invoke, go_sem, eg]
  refine (hseq (w.heap.size + 1)
    (fun pre W => I pre W ∧ W.heap[w.heap.size + 1]? = some (.loop (rc .ready none)) ∧ W.heap[w.heap.size]? = some (.deferred (some [])))
    (fun pre W => Ix pre W ∧ W.heap[w.heap.size + 1]? = some (.loop (rc .done (some .ret))) ∧ W.heap[w.heap.size]? = some (.deferred (some [])))
    (fun pre A h => hIK pre A h.1) ?_ ?_ W1 ⟨hI1, hL, hD⟩ (hB1.cell hp) (hB1.frozen hp)).mono ?_
  · rintro pre A v ⟨h1, h2, h3⟩
    exact ⟨hIc _ _ _ h1, (block_setCell A p v (by omega)).trans h2, (block_setCell A p v (by omega)).trans h3⟩
  · rintro pre x A hpx ⟨hi, hl, hd⟩
    have hlt : w.heap.size + 1 < A.heap.size := (Array.getElem?_eq_some_iff.1 hl).1
    have hy := run_yield (P := P) (args := enc x) hl (by rw [(hpar _ _).1]; exact hps x)
    refine ⟨fn, _, assign, body, by rw [hrc] at hy; exact hy, roundIn_of_wpIn hfn ?_⟩
    have hAt : (ps.zip (enc x)).foldl (fun (t : Array Value) (p, v) => t.setIfInBounds p v) a.tmps = ((rc .ready none).params.zip (enc x)).foldl (fun (t : Array Value) (p, v) => t.setIfInBounds p v) (rc .ready none).tmps := by rw [hrc]
    obtain ⟨A2, hA2⟩ : ∃ A2, A2 = A.putObj (w.heap.size + 1) (.loop { rc .ready none with state := .busy }) := ⟨_, rfl⟩
    refine hassign _ x A _ ⟨A2, by rw [hA2]; exact run_beginRound hl (hpar _ _).2.1, ?_⟩
    have hl2 : A2.heap[w.heap.size + 1]? = some (.loop { rc .ready none with state := .busy }) := by rw [hA2]; exact World.putObj_heap_same hlt
    have hd2 : A2.heap[w.heap.size]? = some (.deferred (some [])) := by rw [hA2]; exact (World.putObj_heap_other (by omega)).trans hd
    have hi2 : I pre A2 := by rw [hA2]; exact hIp _ _ _ _ _ hi (by omega) hl rfl
    have put_cell : ∀ (B : World) (o : Obj), (B.putObj (w.heap.size + 1) o).cell? p = B.cell? p ∧ (B.putObj (w.heap.size + 1) o).frozen? p = B.frozen? p := by
      intro B o
      have e : (B.putObj (w.heap.size + 1) o).heap[p.block]? = B.heap[p.block]? := World.putObj_heap_other (by omega)
      constructor
      · unfold World.cell?
        rw [e]
      · unfold World.frozen?
        rw [e]
    have hc2 : A2.cell? p = A.cell? p ∧ A2.frozen? p = A.frozen? p := by rw [hA2]; exact put_cell A _
    refine wpIn_mono (hbody _ pre x A2 hpx hi2) ?_
    rintro e a3 B ⟨hq, hqc⟩
    have fin : ∀ (jump : Option Code), KeepsOthers A2 B →
        (Instr.endRound (w.heap.size + 1) jump).run P B = .ok (.bool jump.isNone) (B.putObj (w.heap.size + 1) (.loop (rc (if jump.isNone then .ready else .done) jump))) ∧
        (B.putObj (w.heap.size + 1) (.loop (rc (if jump.isNone then .ready else .done) jump))).heap[w.heap.size + 1]? = some (.loop (rc (if jump.isNone then .ready else .done) jump)) ∧
        (B.putObj (w.heap.size + 1) (.loop (rc (if jump.isNone then .ready else .done) jump))).heap[w.heap.size]? = some (.deferred (some [])) := by
      intro jump hk
      have hl3 := hk.same _ _ hl2 rfl
      have hr := run_endRound (P := P) jump hl3
      refine ⟨by rw [hrc] at hr ⊢; exact hr, World.putObj_heap_same (Array.getElem?_eq_some_iff.1 hl3).1, (World.putObj_heap_other (by omega)).trans (hk.same _ _ hd2 rfl)⟩
    cases e with
    | normal =>
      obtain ⟨hk, hi3⟩ := hq
      obtain ⟨hr, hl4, hd4⟩ := fin none hk
      obtain ⟨hc3, hf3⟩ := hqc rfl
      have hp4 := put_cell B (.loop (rc .ready none))
      exact ⟨_, _, hr, .inl ⟨rfl, ⟨hIp _ _ _ _ _ hi3 (by omega) (hk.same _ _ hl2 rfl) rfl, hl4, hd4⟩, hp4.1.trans (hc3.trans hc2.1), hp4.2.trans (hf3.trans hc2.2)⟩⟩
    | ret =>
      obtain ⟨hk, hi3⟩ := hq
      obtain ⟨hr, hl4, hd4⟩ := fin (some .ret) hk
      exact ⟨_, _, hr, .inr ⟨rfl, hXp _ _ _ _ _ hi3 (by omega) (hk.same _ _ hl2 rfl) rfl, hl4, hd4⟩⟩
    | exit id => exact hq.elim
    | goto t => exact hq.elim
    | panic c => exact hq.elim
    | outgrown => exact hq.elim
  · rintro e B ⟨⟨v, rfl⟩, (⟨hi, hl, hd⟩ | ⟨pre, hpre, hi, hl, hd⟩)⟩
    · have hr := run_endLoop (P := P) hl (by rw [(hpar _ _).2.1]; simp)
      rw [(hpar _ _).2.2] at hr
      exact ⟨none, _, hr, hdone _ _ (Nat.le_refl _) (hIp _ _ _ _ _ hi (by omega) hl rfl) ((World.putObj_heap_other (by omega)).trans hd)⟩
    · have hr := run_endLoop (P := P) hl (by rw [(hpar _ _).2.1]; simp)
      rw [(hpar _ _).2.2] at hr
      exact ⟨some .ret, _, hr, hstop _ pre _ (Nat.le_refl _) hpre (hXp _ _ _ _ _ hi (by omega) hl rfl) ((World.putObj_heap_other (by omega)).trans hd)⟩
end Go.Proofs.YtmhpnidhokcaeaaDoor
