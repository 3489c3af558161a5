/- A range over a function whose iterator keeps its state in a cell of its own (a captured variable): the statement's law, for a caller that stands outside of any round. -/
import Derived.RangeFuncWrites
import Derived.RangeFuncNested
import Derived.RangeFuncBound
import Derived.RangeFuncCalls
import Derived.Below
import Derived.Lib.LastIndexByte
import Derived.Lib.Bytealg
set_option linter.unusedVariables false
namespace Go.Proofs.YtijfedahhgcfpaaDoor
open Go Go.RowKit

/-- How a round's body may be left: off its end, or by 'ret'. -/
def roundEnds {α : Type} (I Ix : List α → World → Prop) (xs : List α) (W : World) : Exit → Act → World → Prop
  | .normal, _, W' => KeepsOthers W W' ∧ I xs W'
  | .ret, _, W' => KeepsOthers W W' ∧ Ix xs W'
  | _, _, _ => False
/-- What a contract of such an iterator says, at the function gf with what it has captured, of one loop: J before a round, Jx behind one that has said 'no more'; it may write the cell at p between rounds. -/
def SeqCell {α : Type} (n : Nat) (P : Program) (gf : Nat) (lb : Array Value) (enc : α → Array Value) (K : World → Prop) (p : Addr) (xs : List α) (W : World) : Prop :=
  ∀ (l : Nat) (J Jx : List α → World → Prop), (∀ pre A, J pre A → K A) →
    (∀ pre A v, J pre A → J pre (A.setCell p v)) →
    (∀ pre x A, J pre A → YieldAt Fence.wide (n - 1) P l (enc x) A fun e B => (e = .returned (.bool true) ∧ J (pre ++ [x]) B ∧ B.cell? p = A.cell? p ∧ B.frozen? p = A.frozen? p) ∨ (e = .returned (.bool false) ∧ Jx (pre ++ [x]) B)) →
    ∀ A, J [] A → A.cell? p = W.cell? p → A.frozen? p = W.frozen? p →
    CallsIn Fence.wide n P gf (#[.func (.yield l) #[] #[]] ++ lb) A fun e B => (∃ v, e = .returned v) ∧ (J xs B ∨ ∃ pre, pre <+: xs ∧ Jx pre B)

theorem block_setCell (W : World) (p : Addr) (v : Value) {k : Nat} (hk : k ≠ p.block) : (W.setCell p v).heap[k]? = W.heap[k]? := Below.heap_setCell W p v k hk

set_option maxHeartbeats 2000000 in
theorem range_cell {α : Type} {n : Nat} {P : Program} {g : Operand} {ps : Array Tmp} {assign body : Code} {Q : Exit → Act → World → Prop} {a : Act} {w : World}
    {gf : Nat} {lb : Array Value} (hg : a.eval g = .func (.func gf) #[] lb) (eg : ∀ args w, (callFunc gf args).run P w = .ok (.enter gf args) w)
    {enc : α → Array Value} {K : World → Prop} {p : Addr} {xs : List α} (hp : p.block < w.heap.size) (hseq : SeqCell (n - 1) P gf lb enc K p xs w) (hps : ∀ x, (enc x).size = ps.size)
    (I Ix : List α → World → Prop)
    (hIa : ∀ s A o, I s A → I s (A.alloc o)) (hIp : ∀ s A k o, I s A → w.heap.size ≤ k → I s (A.putObj k o)) (hXp : ∀ s A k o, Ix s A → w.heap.size ≤ k → Ix s (A.putObj k o))
    (hIc : ∀ s A v, I s A → I s (A.setCell p v)) (hIK : ∀ s A, I s A → K A) (h0 : I [] w) (a₁ : α → Act)
    (hassign : ∀ (l : Nat) (x : α) (W : World) (Ka : Act → World → Prop), Ka (a₁ x) W →
      assign.wpIn (Fence.wide.inRound l) (n - 1 - 1) P (Exit.then Ka (fun _ _ _ => False)) { tmps := (ps.zip (enc x)).foldl (fun t (p, v) => t.setIfInBounds p v) a.tmps, defers := [] } W)
    (hbody : ∀ (l : Nat) (pre : List α) (x : α) (W : World), I pre W → body.wpIn (Fence.wide.inRound l) (n - 1 - 1) P (fun e a' W' => roundEnds I Ix (pre ++ [x]) W e a' W' ∧ (e = .normal → W'.cell? p = W.cell? p ∧ W'.frozen? p = W.frozen? p)) (a₁ x) W)
    (hdone : ∀ (D : Nat) (W : World), w.heap.size ≤ D → I xs W → W.heap[D]? = some (.deferred (some [])) → Q .normal { a with defers := { target := .collected D, args := #[] } :: a.defers } W)
    (hstop : ∀ (D : Nat) (pre : List α) (W : World), w.heap.size ≤ D → pre <+: xs → Ix pre W → W.heap[D]? = some (.deferred (some [])) → Code.ret.wpIn Fence.wide n P Q { a with defers := { target := .collected D, args := #[] } :: a.defers } W)
    (hn : 1 ≤ n) :
    (Code.rangeFunc g ps assign body).wpIn Fence.wide n P Q a w := by
  refine wpIn_rangeFunc ?_
  intro fn hfn
  rw [show Fence.wide.round = none from rfl]
  let rec0 : LoopState → Option Code → Loop := fun st pe => { state := st, pending := pe, fn, tmps := a.tmps, params := ps, assign, body, defers := w.heap.size }
  obtain ⟨rc, hrc⟩ : ∃ rc, rc = rec0 := ⟨_, rfl⟩
  obtain ⟨W1, hW1⟩ : ∃ W1, W1 = (w.alloc (.deferred (some []))).alloc (.loop (rc .ready none)) := ⟨_, rfl⟩
  have z1 : (w.alloc (.deferred (some []))).heap.size = w.heap.size + 1 := by simp
  have hL : W1.heap[w.heap.size + 1]? = some (.loop (rc .ready none)) := by
    rw [hW1]
    have := World.alloc_heap_new (w.alloc (.deferred (some []))) (.loop (rc .ready none))
    rwa [z1] at this
  have hD : W1.heap[w.heap.size]? = some (.deferred (some [])) := by
    rw [hW1]
    exact (Below.heap_alloc _ _ _ (by rw [z1]; omega)).trans (World.alloc_heap_new w _)
  have hB1 : Below w.heap.size w W1 := by
    rw [hW1]
    exact ((Below.refl _ w).alloc (Nat.le_refl _) _).alloc (by rw [z1]; omega) _
  have hI1 : I [] W1 := by
    rw [hW1]
    exact hIa _ _ _ (hIa _ _ _ h0)
  have hpar : ∀ st pe, (rc st pe).params = ps ∧ (rc st pe).state = st ∧ (rc st pe).pending = pe := fun st pe => by rw [hrc]; exact ⟨rfl, rfl, rfl⟩
  refine ⟨w.heap.size + 1, [{ target := .collected w.heap.size, args := #[] }], W1, { target := .fn (.func gf) lb, args := #[.func (.yield (w.heap.size + 1)) #[] #[]] }, W1, gf, #[.func (.yield (w.heap.size + 1)) #[] #[]] ++ lb, W1, ?_, ?_, fun _ _ => trivial, ?_, fun _ => hn, ?_⟩
  · rw [hW1, hrc]
    exact run_enterLoop_outer _ _ _ _ _
  · simp only [resolve, hg]
    simp [go_sem]
  · simp [invoke, go_sem, eg]
  refine (hseq (w.heap.size + 1)
    (fun pre W => I pre W ∧ W.heap[w.heap.size + 1]? = some (.loop (rc .ready none)) ∧ W.heap[w.heap.size]? = some (.deferred (some [])))
    (fun pre W => Ix pre W ∧ W.heap[w.heap.size + 1]? = some (.loop (rc .done (some .ret))) ∧ W.heap[w.heap.size]? = some (.deferred (some [])))
    (fun pre A h => hIK pre A h.1) ?_ ?_ W1 ⟨hI1, hL, hD⟩ (hB1.cell hp) (hB1.frozen hp)).mono ?_
  · rintro pre A v ⟨h1, h2, h3⟩
    exact ⟨hIc _ _ _ h1, (block_setCell A p v (by omega)).trans h2, (block_setCell A p v (by omega)).trans h3⟩
  · rintro pre x A ⟨hi, hl, hd⟩
    have hlt : w.heap.size + 1 < A.heap.size := (Array.getElem?_eq_some_iff.1 hl).1
    have hy := run_yield (P := P) (args := enc x) hl (by rw [(hpar _ _).1]; exact hps x)
    refine ⟨fn, _, assign, body, by rw [hrc] at hy; exact hy, roundIn_of_wpIn hfn ?_⟩
    have hAt : (ps.zip (enc x)).foldl (fun (t : Array Value) (p, v) => t.setIfInBounds p v) a.tmps = ((rc .ready none).params.zip (enc x)).foldl (fun (t : Array Value) (p, v) => t.setIfInBounds p v) (rc .ready none).tmps := by rw [hrc]
    obtain ⟨A2, hA2⟩ : ∃ A2, A2 = A.putObj (w.heap.size + 1) (.loop { rc .ready none with state := .busy }) := ⟨_, rfl⟩
    refine hassign _ x A _ ⟨A2, by rw [hA2]; exact run_beginRound hl (hpar _ _).2.1, ?_⟩
    have hl2 : A2.heap[w.heap.size + 1]? = some (.loop { rc .ready none with state := .busy }) := by rw [hA2]; exact World.putObj_heap_same hlt
    have hd2 : A2.heap[w.heap.size]? = some (.deferred (some [])) := by rw [hA2]; exact (World.putObj_heap_other (by omega)).trans hd
    have hi2 : I pre A2 := by rw [hA2]; exact hIp _ _ _ _ hi (by omega)
    have put_cell : ∀ (B : World) (o : Obj), (B.putObj (w.heap.size + 1) o).cell? p = B.cell? p ∧ (B.putObj (w.heap.size + 1) o).frozen? p = B.frozen? p := by
      intro B o
      have e : (B.putObj (w.heap.size + 1) o).heap[p.block]? = B.heap[p.block]? := World.putObj_heap_other (by omega)
      constructor
      · unfold World.cell?
        rw [e]
      · unfold World.frozen?
        rw [e]
    have hc2 : A2.cell? p = A.cell? p ∧ A2.frozen? p = A.frozen? p := by rw [hA2]; exact put_cell A _
    refine wpIn_mono (hbody _ pre x A2 hi2) ?_
    rintro e a3 B ⟨hq, hqc⟩
    have fin : ∀ (jump : Option Code), KeepsOthers A2 B →
        (Instr.endRound (w.heap.size + 1) jump).run P B = .ok (.bool jump.isNone) (B.putObj (w.heap.size + 1) (.loop (rc (if jump.isNone then .ready else .done) jump))) ∧
        (B.putObj (w.heap.size + 1) (.loop (rc (if jump.isNone then .ready else .done) jump))).heap[w.heap.size + 1]? = some (.loop (rc (if jump.isNone then .ready else .done) jump)) ∧
        (B.putObj (w.heap.size + 1) (.loop (rc (if jump.isNone then .ready else .done) jump))).heap[w.heap.size]? = some (.deferred (some [])) := by
      intro jump hk
      have hl3 := hk.same _ _ hl2 rfl
      have hr := run_endRound (P := P) jump hl3
      refine ⟨by rw [hrc] at hr ⊢; exact hr, World.putObj_heap_same (Array.getElem?_eq_some_iff.1 hl3).1, (World.putObj_heap_other (by omega)).trans (hk.same _ _ hd2 rfl)⟩
    cases e with
    | normal =>
      obtain ⟨hk, hi3⟩ := hq
      obtain ⟨hr, hl4, hd4⟩ := fin none hk
      obtain ⟨hc3, hf3⟩ := hqc rfl
      have hp4 := put_cell B (.loop (rc .ready none))
      exact ⟨_, _, hr, .inl ⟨rfl, ⟨hIp _ _ _ _ hi3 (by omega), hl4, hd4⟩, hp4.1.trans (hc3.trans hc2.1), hp4.2.trans (hf3.trans hc2.2)⟩⟩
    | ret =>
      obtain ⟨hk, hi3⟩ := hq
      obtain ⟨hr, hl4, hd4⟩ := fin (some .ret) hk
      exact ⟨_, _, hr, .inr ⟨rfl, hXp _ _ _ _ hi3 (by omega), hl4, hd4⟩⟩
    | exit id => exact hq.elim
    | goto t => exact hq.elim
    | panic c => exact hq.elim
    | outgrown => exact hq.elim
  · rintro e B ⟨⟨v, rfl⟩, (⟨hi, hl, hd⟩ | ⟨pre, hpre, hi, hl, hd⟩)⟩
    · have hr := run_endLoop (P := P) hl (by rw [(hpar _ _).2.1]; simp)
      rw [(hpar _ _).2.2] at hr
      exact ⟨none, _, hr, hdone _ _ (Nat.le_refl _) (hIp _ _ _ _ hi (by omega)) ((World.putObj_heap_other (by omega)).trans hd)⟩
    · have hr := run_endLoop (P := P) hl (by rw [(hpar _ _).2.1]; simp)
      rw [(hpar _ _).2.2] at hr
      exact ⟨some .ret, _, hr, hstop _ pre _ (Nat.le_refl _) hpre (hXp _ _ _ _ hi (by omega)) ((World.putObj_heap_other (by omega)).trans hd)⟩
end Go.Proofs.YtijfedahhgcfpaaDoor
/- Paths in plain Lean: what lies within what, parents, parts (chapter 04; no program in sight). -/
set_option linter.unusedVariables false
namespace Go.Proofs.YtijfedahhgcfpaaDoor

/-- p lies in q, or is it. -/
def Within (p q : List UInt8) : Prop := ∃ r, p = q ++ r ∧ (r = [] ∨ ∃ t, r = 47 :: t)
theorem within_refl (p : List UInt8) : Within p p := ⟨[], by simp, Or.inl rfl⟩
theorem within_trans {p q s : List UInt8} (h : Within p q) (k : Within q s) : Within p s := by
  obtain ⟨r, rfl, hr⟩ := h
  obtain ⟨u, rfl, hu⟩ := k
  refine ⟨u ++ r, by simp, ?_⟩
  rcases hu with rfl | ⟨t, rfl⟩
  · simpa using hr
  · exact Or.inr ⟨t ++ r, rfl⟩
theorem within_anti {p q : List UInt8} (h : Within p q) (k : Within q p) : p = q := by
  obtain ⟨r, rfl, hr⟩ := h
  obtain ⟨u, hu, _⟩ := k
  have : r.length + u.length = 0 := by
    have := congrArg List.length hu
    simp only [List.length_append] at this
    omega
  have : r = [] := List.eq_nil_of_length_eq_zero (by omega)
  rw [this]
  simp
theorem within_behind (p t : List UInt8) : Within (p ++ 47 :: t) p := ⟨47 :: t, rfl, Or.inr ⟨t, rfl⟩⟩
/-- Where p lies once q is moved to s. -/
theorem within_moved {p q : List UInt8} (h : Within p q) (s : List UInt8) : Within (s ++ p.drop q.length) s := by
  obtain ⟨r, rfl, hr⟩ := h
  exact ⟨r, by simp, hr⟩
theorem moved_back {p q : List UInt8} (h : Within p q) (s : List UInt8) : q ++ (s ++ p.drop q.length).drop s.length = p := by
  obtain ⟨r, rfl, hr⟩ := h
  simp
/-- Behind one beginning and a slash: within as behind it. -/
theorem within_ahead (p a b : List UInt8) : Within (p ++ 47 :: a) (p ++ 47 :: b) ↔ Within a b := by
  constructor
  · rintro ⟨r, h, hr⟩
    refine ⟨r, ?_, hr⟩
    rw [List.append_assoc] at h
    have := List.append_cancel_left h
    simpa using this
  · rintro ⟨r, rfl, hr⟩
    exact ⟨r, by simp, hr⟩
theorem not_within_short (p t : List UInt8) : ¬ Within p (p ++ 47 :: t) := by
  rintro ⟨r, h, _⟩
  have := congrArg List.length h
  simp only [List.length_append, List.length_cons] at this
  omega

/-- A part's letters. -/
def letterN (x : Nat) : Bool := decide ((97 ≤ x ∧ x ≤ 122) ∨ (48 ≤ x ∧ x ≤ 57) ∨ x = 46 ∨ x = 95 ∨ x = 45)
def partOk (maxPart : Nat) (s : List UInt8) : Bool := decide (1 ≤ s.length) && decide (s.length ≤ maxPart) && decide (s ≠ [46]) && decide (s ≠ [46, 46]) && s.all fun b => letterN b.toNat
/-- What stands between the slashes. -/
def splitS : List UInt8 → List (List UInt8)
  | [] => [[]]
  | b :: l => if b = 47 then [] :: splitS l else match splitS l with
    | [] => [[b]]
    | x :: xs => (b :: x) :: xs
theorem splitS_ne (l : List UInt8) : splitS l ≠ [] := by
  cases l with
  | nil => simp [splitS]
  | cons b l =>
    unfold splitS
    split
    · simp
    · split <;> simp
def right (maxPart maxDeep : Nat) (s : List UInt8) : Bool := (splitS s).all (partOk maxPart) && decide ((splitS s).length ≤ maxDeep)
theorem splitS_none (l : List UInt8) (h : ∀ b ∈ l, b ≠ 47) : splitS l = [l] := by
  induction l with
  | nil => rfl
  | cons b l ih =>
    have hb := h b List.mem_cons_self
    have := ih (fun x hx => h x (List.mem_cons_of_mem _ hx))
    unfold splitS
    rw [if_neg hb, this]
theorem splitS_append (a l : List UInt8) : splitS (a ++ 47 :: l) = splitS a ++ splitS l := by
  induction a with
  | nil =>
    show splitS (47 :: l) = [[]] ++ splitS l
    rw [splitS, if_pos rfl]
    rfl
  | cons b a ih =>
    show splitS (b :: (a ++ 47 :: l)) = splitS (b :: a) ++ splitS l
    rw [splitS, splitS]
    by_cases hb : b = 47
    · rw [if_pos hb, if_pos hb, ih]
      rfl
    · rw [if_neg hb, if_neg hb, ih]
      match h : splitS a with
      | [] => exact absurd h (splitS_ne a)
      | x :: xs => rfl
/-- What stands ahead of the last slash. -/
def parentOf : List UInt8 → Option (List UInt8)
  | [] => none
  | b :: l => match parentOf l with
    | some p => some (b :: p)
    | none => if b = 47 then some [] else none
theorem parentOf_none (l : List UInt8) (h : ∀ b ∈ l, b ≠ 47) : parentOf l = none := by
  induction l with
  | nil => rfl
  | cons b l ih =>
    unfold parentOf
    rw [ih (fun x hx => h x (List.mem_cons_of_mem _ hx))]
    simp only [if_neg (h b List.mem_cons_self)]
theorem parentOf_behind (a t : List UInt8) (h : ∀ b ∈ t, b ≠ 47) : parentOf (a ++ 47 :: t) = some a := by
  induction a with
  | nil =>
    show parentOf (47 :: t) = some []
    unfold parentOf
    rw [parentOf_none t h]
    rfl
  | cons b a ih =>
    show parentOf (b :: (a ++ 47 :: t)) = some (b :: a)
    unfold parentOf
    rw [ih]
theorem parentOf_some : ∀ (l p : List UInt8), parentOf l = some p → ∃ t, l = p ++ 47 :: t ∧ ∀ b ∈ t, b ≠ 47
  | [], p, h => by simp [parentOf] at h
  | b :: l, p, h => by
    unfold parentOf at h
    cases hp : parentOf l with
    | some q =>
      rw [hp] at h
      obtain rfl := Option.some.inj h
      obtain ⟨t, rfl, ht⟩ := parentOf_some l q hp
      exact ⟨t, rfl, ht⟩
    | none =>
      rw [hp] at h
      by_cases hb : b = 47
      · simp only [if_pos hb] at h
        obtain rfl := Option.some.inj h
        subst hb
        refine ⟨l, rfl, ?_⟩
        intro x hx e
        subst e
        obtain ⟨u, v, rfl⟩ := List.append_of_mem hx
        have : parentOf (u ++ 47 :: v) ≠ none := by
          clear hp hx h
          induction u with
          | nil =>
            show parentOf (47 :: v) ≠ none
            unfold parentOf
            cases parentOf v <;> simp
          | cons c u ih =>
            show parentOf (c :: (u ++ 47 :: v)) ≠ none
            unfold parentOf
            cases hq : parentOf (u ++ 47 :: v) with
            | none => exact absurd hq ih
            | some q => simp
        exact absurd hp this
      · simp only [if_neg hb] at h
        exact absurd h (by simp)
theorem right_behind (mp md : Nat) (p t : List UInt8) (ht : ∀ b ∈ t, b ≠ 47) : right mp md (p ++ 47 :: t) = ((splitS p).all (partOk mp) && partOk mp t && decide ((splitS p).length + 1 ≤ md)) := by
  unfold right
  rw [splitS_append, splitS_none t ht, List.all_append, List.length_append]
  simp [Bool.and_assoc]
theorem right_parent (mp md : Nat) (s p : List UInt8) (h : right mp md s = true) (hp : parentOf s = some p) : right mp md p = true := by
  obtain ⟨t, rfl, ht⟩ := parentOf_some s p hp
  rw [right_behind mp md p t ht] at h
  simp only [Bool.and_eq_true, decide_eq_true_eq] at h
  unfold right
  rw [h.1.1, decide_eq_true (by omega)]
  rfl
theorem partOk_nil (mp : Nat) : partOk mp [] = false := rfl
theorem right_slash_behind (mp md : Nat) (p : List UInt8) : right mp md (p ++ [47]) = false := by
  have := right_behind mp md p [] (by simp)
  rw [this, partOk_nil]
  simp
theorem right_slash_ahead (mp md : Nat) (p : List UInt8) : right mp md (47 :: p) = false := by
  have := splitS_append [] p
  unfold right
  rw [show (47 :: p) = [] ++ 47 :: p from rfl, this]
  simp [splitS, partOk_nil]
/-- How deep. -/
theorem splitS_count (p : List UInt8) : (splitS p).length = 1 + p.count 47 := by
  induction p with
  | nil => rfl
  | cons b p ih =>
    unfold splitS
    by_cases hb : b = 47
    · rw [if_pos hb, List.length_cons, ih, hb, List.count_cons_self]
      omega
    · rw [if_neg hb, List.count_cons_of_ne hb, ← ih]
      match h : splitS p with
      | [] => exact absurd h (splitS_ne p)
      | x :: xs => rfl
theorem splitS_last (p : List UInt8) (c : UInt8) (hc : c ≠ 47) : ∃ x ∈ splitS (p ++ [c]), c ∈ x := by
  induction p with
  | nil => exact ⟨[c], by simp [splitS, hc], by simp⟩
  | cons b p ih =>
    obtain ⟨x, hx, hcx⟩ := ih
    show ∃ x ∈ splitS (b :: (p ++ [c])), c ∈ x
    unfold splitS
    by_cases hb : b = 47
    · rw [if_pos hb]
      exact ⟨x, List.mem_cons_of_mem _ hx, hcx⟩
    · rw [if_neg hb]
      match h : splitS (p ++ [c]) with
      | [] => exact absurd h (splitS_ne _)
      | y :: ys =>
        rw [h] at hx
        rcases List.mem_cons.1 hx with rfl | hx
        · exact ⟨b :: x, List.mem_cons_self, List.mem_cons_of_mem _ hcx⟩
        · exact ⟨x, List.mem_cons_of_mem _ hx, hcx⟩
theorem partOk_strange (mp : Nat) (x : List UInt8) (c : UInt8) (h : c ∈ x) (hl : letterN c.toNat = false) : partOk mp x = false := by
  unfold partOk
  rw [show (x.all fun b => letterN b.toNat) = false from by
    rw [List.all_eq_false]
    exact ⟨c, h, by simp [hl]⟩]
  simp
theorem right_strange (mp md : Nat) (p : List UInt8) (c : UInt8) (hc : c ≠ 47) (hl : letterN c.toNat = false) : right mp md (p ++ [c]) = false := by
  obtain ⟨x, hx, hcx⟩ := splitS_last p c hc
  unfold right
  rw [show (splitS (p ++ [c])).all (partOk mp) = false from by
    rw [List.all_eq_false]
    exact ⟨x, hx, by simp [partOk_strange mp x c hcx hl]⟩]
  simp
/-- In Bool, as the code asks it. -/
def withinB (p q : List UInt8) : Bool := q.isPrefixOf p && (decide (p.length = q.length) || decide (p[q.length]? = some 47))
theorem withinB_iff (p q : List UInt8) : withinB p q = true ↔ Within p q := by
  unfold withinB
  rw [Bool.and_eq_true, List.isPrefixOf_iff_prefix]
  constructor
  · rintro ⟨⟨r, rfl⟩, h⟩
    refine ⟨r, rfl, ?_⟩
    rw [Bool.or_eq_true, decide_eq_true_eq, decide_eq_true_eq] at h
    rcases h with h | h
    · left
      simp at h
      exact h
    · right
      rw [List.getElem?_append_right (Nat.le_refl _), Nat.sub_self] at h
      match r, h with
      | x :: t, h =>
        simp at h
        exact ⟨t, by rw [h]⟩
  · rintro ⟨r, rfl, h⟩
    refine ⟨⟨r, rfl⟩, ?_⟩
    rcases h with rfl | ⟨t, rfl⟩
    · simp
    · simp
end Go.Proofs.YtijfedahhgcfpaaDoor
/- Bytes as lists; what the code of chapter 04 asks, as lists (no program in sight). -/
set_option linter.unusedVariables false
namespace Go.Proofs.YtijfedahhgcfpaaDoor
open Go

def bl (p : ByteArray) : List UInt8 := p.data.toList
def ba (l : List UInt8) : ByteArray := ⟨l.toArray⟩
theorem bl_ba (l : List UInt8) : bl (ba l) = l := rfl
theorem ba_bl (p : ByteArray) : ba (bl p) = p := rfl
theorem bl_inj {p q : ByteArray} : bl p = bl q ↔ p = q := ⟨fun h => by rw [← ba_bl p, h, ba_bl], fun h => by rw [h]⟩
theorem bl_size (p : ByteArray) : (bl p).length = p.size := rfl
theorem bl_append (p q : ByteArray) : bl (p ++ q) = bl p ++ bl q := by
  unfold bl
  rw [ByteArray.data_append, Array.toList_append]
theorem bl_extract (p : ByteArray) (i j : Nat) : bl (p.extract i j) = ((bl p).take j).drop i := by
  unfold bl
  rw [ByteArray.data_extract, Array.toList_extract, List.extract_eq_take_drop, List.drop_take]
theorem bl_get (p : ByteArray) (i : Nat) (h : i < p.size) : (bl p)[i]? = some (p[i]'h) := by
  obtain ⟨⟨l⟩⟩ := p
  exact List.getElem?_eq_getElem h
theorem splitS_step (l : List UInt8) : splitS l = if Lib.indexByte l 47 < 0 then [l] else l.take (Lib.indexByte l 47).toNat :: splitS (l.drop ((Lib.indexByte l 47).toNat + 1)) := by
  induction l with
  | nil => rfl
  | cons b l ih =>
    have hix : Lib.indexByte (b :: l) 47 = if b = 47 then 0 else if Lib.indexByte l 47 = -1 then -1 else Lib.indexByte l 47 + 1 := by
      rw [Lib.indexByte]
      simp
    rw [splitS]
    by_cases hb : b = 47
    · rw [if_pos hb] at hix ⊢
      rw [hix, if_neg (by decide)]
      rfl
    · rw [if_neg hb] at hix ⊢
      have hge := Lib.indexByte_ge l 47
      by_cases hn : Lib.indexByte l 47 = -1
      · rw [if_pos hn] at hix
        rw [hix, if_pos (by decide), ih, if_pos (by omega)]
      · rw [if_neg hn] at hix
        rw [hix, if_neg (by omega), ih, if_neg (by omega)]
        obtain ⟨k, hk⟩ : ∃ k : Nat, Lib.indexByte l 47 = k := ⟨(Lib.indexByte l 47).toNat, by omega⟩
        rw [hk, show ((k : Int) + 1).toNat = k + 1 by omega, show ((k : Int)).toNat = k by omega]
        rfl
theorem indexByte_lt (l : List UInt8) (c : UInt8) : Lib.indexByte l c < l.length := by
  induction l with
  | nil =>
    show (-1 : Int) < 0
    decide
  | cons b l ih =>
    rw [Lib.indexByte, List.length_cons]
    split
    · omega
    · split <;> omega
theorem take_last (l : List UInt8) (i : Nat) (h : l[i]? = some 47) : l = l.take i ++ 47 :: l.drop (i + 1) := by
  obtain ⟨hi, e⟩ := List.getElem?_eq_some_iff.1 h
  have := List.take_append_drop i l
  rw [List.drop_eq_getElem_cons hi, e] at this
  exact this.symm
/-- What stands ahead of the last place. -/
theorem parentOf_at (l : List UInt8) (i : Nat) (h : l[i]? = some 47) (hj : ∀ j, i < j → l[j]? ≠ some 47) : parentOf l = some (l.take i) := by
  have hl := take_last l i h
  obtain ⟨hi, _⟩ := List.getElem?_eq_some_iff.1 h
  rw [hl]
  have := parentOf_behind (l.take i) (l.drop (i + 1)) (by
    intro b hb e
    subst e
    obtain ⟨k, hk, e⟩ := List.getElem_of_mem hb
    apply hj (i + 1 + k) (by omega)
    rw [List.getElem_drop] at e
    rw [List.length_drop] at hk
    rw [List.getElem?_eq_getElem (by omega), e])
  rw [this]
  congr 1
  rw [List.take_append_of_le_length (by rw [List.length_take]; omega), List.take_take, Nat.min_self]
theorem parentOf_no (l : List UInt8) (h : ∀ j : Nat, l[j]? ≠ some 47) : parentOf l = none := by
  apply parentOf_none
  intro b hb e
  subst e
  obtain ⟨k, hk, e⟩ := List.getElem_of_mem hb
  exact h k (by rw [List.getElem?_eq_getElem hk, e])
/-- Within, as the code asks it: of the same length or longer, alike so far, and then a slash or the end. -/
theorem withinB_eq (p q : List UInt8) : withinB p q = (decide (q.length ≤ p.length) && decide (p.take q.length = q) && (decide (p.drop q.length = []) || decide ((p.drop q.length)[0]? = some 47))) := by
  have h1 : q.isPrefixOf p = (decide (q.length ≤ p.length) && decide (p.take q.length = q)) := by
    rw [Bool.eq_iff_iff, List.isPrefixOf_iff_prefix, Bool.and_eq_true, decide_eq_true_eq, decide_eq_true_eq]
    constructor
    · rintro ⟨t, rfl⟩
      simp
    · rintro ⟨_, h⟩
      exact ⟨p.drop q.length, by rw [← List.take_append_drop q.length p, h]; simp⟩
  unfold withinB
  rw [h1]
  by_cases hle : q.length ≤ p.length
  · have e : decide (p.length = q.length) = decide (p.drop q.length = []) := by
      rw [decide_eq_decide, List.drop_eq_nil_iff]
      omega
    rw [e, List.getElem?_drop, Nat.add_zero]
  · rw [decide_eq_false hle]
    simp
end Go.Proofs.YtijfedahhgcfpaaDoor
