/- Lines and tokens in plain Lean (chapter 05; no program in sight). -/
import Derived.Below
set_option linter.unusedVariables false
namespace Go.Proofs.YtmhpnidhokcaeaaDoor

/-- A byte of a token. -/
def inN (x : Nat) : Bool := decide (x = 95 ∨ (97 ≤ x ∧ x ≤ 122) ∨ (65 ≤ x ∧ x ≤ 90) ∨ (48 ≤ x ∧ x ≤ 57))
def inB (b : UInt8) : Bool := inN b.toNat
def tokenB (l : List UInt8) : Bool := !l.isEmpty && l.all inB
abbrev Piece := List UInt8 × Bool
/-- A line's pieces: the longest runs of one kind. -/
def pieces : List UInt8 → List Piece
  | [] => []
  | b :: l => match pieces l with
    | [] => [([b], inB b)]
    | (x, t) :: r => if inB b = t then (b :: x, t) :: r else ([b], inB b) :: (x, t) :: r
def flat (ps : List Piece) : List UInt8 := (ps.map Prod.fst).flatten
/-- Pieces that may be some line's. -/
def Alt : List Piece → Prop
  | [] => True
  | (x, t) :: r => x ≠ [] ∧ (∀ b ∈ x, inB b = t) ∧ (∀ y s, r.head? = some (y, s) → s ≠ t) ∧ Alt r
theorem flat_cons (p : Piece) (r : List Piece) : flat (p :: r) = p.1 ++ flat r := by simp [flat]
theorem pieces_alt (l : List UInt8) : Alt (pieces l) ∧ flat (pieces l) = l := by
  induction l with
  | nil => exact ⟨trivial, rfl⟩
  | cons b l ih =>
    obtain ⟨h1, h2⟩ := ih
    unfold pieces
    cases hp : pieces l with
    | nil =>
      rw [hp] at h2
      subst h2
      exact ⟨⟨by simp, by simp, by simp, trivial⟩, rfl⟩
    | cons p r =>
      obtain ⟨x, t⟩ := p
      rw [hp] at h1 h2
      obtain ⟨a1, a2, a3, a4⟩ := h1
      by_cases e : inB b = t
      · simp only [if_pos e]
        refine ⟨⟨by simp, ?_, a3, a4⟩, ?_⟩
        · intro c hc
          rcases List.mem_cons.1 hc with rfl | hc
          · exact e
          · exact a2 c hc
        · rw [flat_cons] at h2 ⊢
          rw [← h2]
          rfl
      · simp only [if_neg e]
        refine ⟨⟨by simp, by simp, ?_, a1, a2, a3, a4⟩, ?_⟩
        · intro y s hy
          obtain ⟨rfl, rfl⟩ := Prod.mk.inj (Option.some.inj hy)
          exact fun h => e h.symm
        · rw [flat_cons, h2]
          rfl
theorem pieces_run : ∀ (x : List UInt8) (t : Bool) (r : List Piece), x ≠ [] → (∀ b ∈ x, inB b = t) → (∀ y s, r.head? = some (y, s) → s ≠ t) → pieces (flat r) = r → pieces (x ++ flat r) = (x, t) :: r
  | [], _, _, h, _, _, _ => absurd rfl h
  | [b], t, r, _, hb, hr, hp => by
    have e : inB b = t := hb b (by simp)
    show pieces (b :: flat r) = _
    unfold pieces
    rw [hp]
    cases r with
    | nil => simp [e]
    | cons p r =>
      obtain ⟨y, s⟩ := p
      have hs := hr y s rfl
      simp only [e]
      rw [if_neg (fun h => hs h.symm)]
  | b :: c :: x, t, r, _, hb, hr, hp => by
    have e : inB b = t := hb b (by simp)
    have ih := pieces_run (c :: x) t r (by simp) (fun d hd => hb d (List.mem_cons_of_mem _ hd)) hr hp
    show pieces (b :: ((c :: x) ++ flat r)) = _
    rw [pieces, ih]
    simp only [if_pos e]
theorem pieces_flat : ∀ (ps : List Piece), Alt ps → pieces (flat ps) = ps
  | [], _ => rfl
  | (x, t) :: r, ⟨h1, h2, h3, h4⟩ => by
    rw [flat_cons]
    exact pieces_run x t r h1 h2 h3 (pieces_flat r h4)
/-- A piece with a token in its place. -/
def swap (f t : List UInt8) (p : Piece) : Piece := if p.2 = true ∧ p.1 = f then (t, true) else p
def replaced (l f t : List UInt8) : List UInt8 := flat ((pieces l).map (swap f t))
theorem tokenB_iff (l : List UInt8) : tokenB l = true ↔ l ≠ [] ∧ ∀ b ∈ l, inB b = true := by
  unfold tokenB
  rw [Bool.and_eq_true, List.all_eq_true]
  cases l <;> simp
theorem swap_kind (f t : List UInt8) (p : Piece) : (swap f t p).2 = p.2 := by
  unfold swap
  split
  · rename_i h
    exact h.1.symm
  · rfl
theorem alt_swap (f t : List UInt8) (ht : tokenB t = true) : ∀ ps : List Piece, Alt ps → Alt (ps.map (swap f t))
  | [], _ => trivial
  | (x, k) :: r, ⟨h1, h2, h3, h4⟩ => by
    obtain ⟨t1, t2⟩ := (tokenB_iff t).1 ht
    have hk : (swap f t (x, k)).2 = k := swap_kind f t (x, k)
    have e : swap f t (x, k) = ((swap f t (x, k)).1, k) := Prod.ext rfl hk
    rw [List.map_cons, e]
    refine ⟨?_, ?_, ?_, alt_swap f t ht r h4⟩
    · unfold swap
      split
      · exact t1
      · exact h1
    · unfold swap
      split
      · rename_i h
        intro b hb
        have hk1 : k = true := h.1
        rw [hk1]
        exact t2 b hb
      · exact h2
    · intro y s hy
      rw [List.head?_map] at hy
      obtain ⟨q, hq, e2⟩ := Option.map_eq_some_iff.1 hy
      have := swap_kind f t q
      rw [e2] at this
      rw [show s = q.2 from this]
      exact h3 q.1 q.2 hq
theorem pieces_replaced (l f t : List UInt8) (ht : tokenB t = true) : pieces (replaced l f t) = (pieces l).map (swap f t) := pieces_flat _ (alt_swap f t ht _ (pieces_alt l).1)
theorem swap_self (f : List UInt8) (p : Piece) : swap f f p = p := by
  unfold swap
  split
  · rename_i h
    obtain ⟨x, k⟩ := p
    exact Prod.ext h.2.symm h.1.symm
  · rfl
theorem replaced_self (l f : List UInt8) : replaced l f f = l := by
  unfold replaced
  rw [show swap f f = id from funext (swap_self f), List.map_id]
  exact (pieces_alt l).2
theorem alt_token : ∀ (ps : List Piece), Alt ps → ∀ p ∈ ps, tokenB p.1 = p.2 ∧ p.1 ≠ []
  | [], _, p, hp => by cases hp
  | (x, k) :: r, ⟨h1, h2, h3, h4⟩, p, hp => by
    rcases List.mem_cons.1 hp with rfl | hp
    · refine ⟨?_, h1⟩
      cases k with
      | true => exact (tokenB_iff x).2 ⟨h1, h2⟩
      | false =>
        rw [Bool.eq_false_iff]
        intro h
        obtain ⟨_, h5⟩ := (tokenB_iff x).1 h
        cases x with
        | nil => exact h1 rfl
        | cons b x =>
          have e1 := h5 b (by simp)
          have e2 := h2 b (by simp)
          rw [e1] at e2
          cases e2
    · exact alt_token r h4 p hp
theorem swap_gone (f t : List UInt8) (hf : tokenB f = true) (hft : f ≠ t) (ps : List Piece) (h : Alt ps) : ∀ p ∈ ps.map (swap f t), p.1 ≠ f := by
  intro p hp e
  obtain ⟨q, hq, rfl⟩ := List.mem_map.1 hp
  have := alt_token ps h q hq
  unfold swap at e
  split at e
  · exact hft e.symm
  · rename_i hn
    apply hn
    refine ⟨?_, e⟩
    rw [← this.1, e, hf]
theorem swap_back (f t : List UInt8) (p : Piece) (h : p.1 ≠ t) : swap t f (swap f t p) = p := by
  unfold swap
  by_cases c : p.2 = true ∧ p.1 = f
  · rw [if_pos c, if_pos ⟨rfl, rfl⟩]
    obtain ⟨x, k⟩ := p
    exact Prod.ext c.2.symm c.1.symm
  · rw [if_neg c, if_neg (fun h2 => h h2.2)]
theorem replaced_back (l f t : List UInt8) (ht : tokenB t = true) (h : ∀ p ∈ pieces l, p.1 ≠ t) : replaced (replaced l f t) t f = l := by
  have e := pieces_replaced l f t ht
  show flat ((pieces (replaced l f t)).map (swap t f)) = l
  rw [e, List.map_map]
  rw [show (pieces l).map (swap t f ∘ swap f t) = (pieces l).map id from List.map_congr_left (fun p hp => swap_back f t p (h p hp)), List.map_id]
  exact (pieces_alt l).2
theorem replaced_not (l f t : List UInt8) (h : ∀ p ∈ pieces l, p.2 = true → p.1 ≠ f) : replaced l f t = l := by
  unfold replaced
  rw [show (pieces l).map (swap f t) = (pieces l).map id from List.map_congr_left (fun p hp => by
    unfold swap
    rw [if_neg (fun c => h p hp c.1 c.2)]
    rfl), List.map_id]
  exact (pieces_alt l).2
theorem replaced_none (l f t : List UInt8) (h : tokenB f = false) : replaced l f t = l := by
  apply replaced_not
  intro p hp hk e
  have := alt_token _ (pieces_alt l).1 p hp
  rw [e, h, hk] at this
  cases this.1
theorem pieces_token (t : List UInt8) (h : tokenB t = true) : pieces t = [(t, true)] := by
  obtain ⟨h1, h2⟩ := (tokenB_iff t).1 h
  have := pieces_run t true [] h1 h2 (by simp) rfl
  simpa [flat] using this

/-! ## lines -/
/-- A text's lines, each ended by a byte 10; what stands behind the last one. -/
def linesOf : List UInt8 → List (List UInt8) × List UInt8
  | [] => ([], [])
  | b :: l => if b = 10 then ([] :: (linesOf l).1, (linesOf l).2) else match linesOf l with
    | ([], r) => ([], b :: r)
    | (x :: xs, r) => ((b :: x) :: xs, r)
def textOf (ls : List (List UInt8)) : List UInt8 := (ls.map fun x => x ++ [10]).flatten
theorem linesOf_text (l : List UInt8) : textOf (linesOf l).1 ++ (linesOf l).2 = l := by
  induction l with
  | nil => rfl
  | cons b l ih =>
    unfold linesOf
    by_cases h : b = 10
    · rw [if_pos h]
      subst h
      show [10] ++ textOf (linesOf l).1 ++ (linesOf l).2 = _
      rw [List.append_assoc, ih]
      rfl
    · rw [if_neg h]
      cases hl : linesOf l with
      | mk xs r =>
        rw [hl] at ih
        cases xs with
        | nil =>
          simp only at ih ⊢
          rw [← ih]
          rfl
        | cons x xs =>
          simp only at ih ⊢
          rw [← ih]
          rfl
theorem linesOf_right (l : List UInt8) : (∀ x ∈ (linesOf l).1, (10 : UInt8) ∉ x) ∧ (10 : UInt8) ∉ (linesOf l).2 := by
  induction l with
  | nil => exact ⟨by simp [linesOf], by simp [linesOf]⟩
  | cons b l ih =>
    unfold linesOf
    by_cases h : b = 10
    · rw [if_pos h]
      refine ⟨?_, ih.2⟩
      intro x hx
      rcases List.mem_cons.1 hx with rfl | hx
      · simp
      · exact ih.1 x hx
    · rw [if_neg h]
      cases hl : linesOf l with
      | mk xs r =>
        rw [hl] at ih
        cases xs with
        | nil => exact ⟨by simp, by simpa using ⟨fun e => h e.symm, ih.2⟩⟩
        | cons x xs =>
          refine ⟨?_, ih.2⟩
          intro y hy
          rcases List.mem_cons.1 hy with rfl | hy
          · simpa using ⟨fun e => h e.symm, ih.1 x (by simp)⟩
          · exact ih.1 y (List.mem_cons_of_mem _ hy)
theorem linesOf_line (x r : List UInt8) (h : (10 : UInt8) ∉ x) : linesOf (x ++ 10 :: r) = (x :: (linesOf r).1, (linesOf r).2) := by
  induction x with
  | nil =>
    show linesOf (10 :: r) = _
    rw [linesOf, if_pos rfl]
  | cons b x ih =>
    have hb : b ≠ 10 := fun e => h (by simp [e])
    show linesOf (b :: (x ++ 10 :: r)) = _
    rw [linesOf, if_neg hb, ih (fun hx => h (List.mem_cons_of_mem _ hx))]
theorem linesOf_textOf (ls : List (List UInt8)) (h : ∀ x ∈ ls, (10 : UInt8) ∉ x) (r : List UInt8) : linesOf (textOf ls ++ r) = (ls ++ (linesOf r).1, (linesOf r).2) := by
  induction ls with
  | nil => rfl
  | cons x ls ih =>
    have e : textOf (x :: ls) ++ r = x ++ 10 :: (textOf ls ++ r) := by simp [textOf]
    rw [e, linesOf_line x _ (h x (by simp)), ih (fun y hy => h y (List.mem_cons_of_mem _ hy))]
    rfl
theorem linesOf_count (l : List UInt8) : (linesOf l).1.length = l.count 10 := by
  induction l with
  | nil => rfl
  | cons b l ih =>
    unfold linesOf
    by_cases h : b = 10
    · rw [if_pos h, h, List.count_cons_self, ← ih]
      rfl
    · rw [if_neg h, List.count_cons_of_ne h, ← ih]
      cases linesOf l with
      | mk xs r => cases xs <;> rfl
end Go.Proofs.YtmhpnidhokcaeaaDoor
