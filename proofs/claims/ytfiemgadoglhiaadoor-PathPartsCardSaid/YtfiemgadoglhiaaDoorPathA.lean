/- Paths in plain Lean: what lies within what, parents, parts (chapter 04; no program in sight). -/
import Derived.Below
set_option linter.unusedVariables false
namespace Go.Proofs.YtfiemgadoglhiaaDoor

/-- p lies in q, or is it. -/
def Within (p q : List UInt8) : Prop := ∃ r, p = q ++ r ∧ (r = [] ∨ ∃ t, r = 47 :: t)
theorem within_refl (p : List UInt8) : Within p p := ⟨[], by simp, Or.inl rfl⟩
theorem within_trans {p q s : List UInt8} (h : Within p q) (k : Within q s) : Within p s := by
  obtain ⟨r, rfl, hr⟩ := h
  obtain ⟨u, rfl, hu⟩ := k
  refine ⟨u ++ r, by simp, ?_⟩
  rcases hu with rfl | ⟨t, rfl⟩
  · simpa using hr
  · exact Or.inr ⟨t ++ r, rfl⟩
theorem within_anti {p q : List UInt8} (h : Within p q) (k : Within q p) : p = q := by
  obtain ⟨r, rfl, hr⟩ := h
  obtain ⟨u, hu, _⟩ := k
  have : r.length + u.length = 0 := by
    have := congrArg List.length hu
    simp only [List.length_append] at this
    omega
  have : r = [] := List.eq_nil_of_length_eq_zero (by omega)
  rw [this]
  simp
theorem within_behind (p t : List UInt8) : Within (p ++ 47 :: t) p := ⟨47 :: t, rfl, Or.inr ⟨t, rfl⟩⟩
/-- Where p lies once q is moved to s. -/
theorem within_moved {p q : List UInt8} (h : Within p q) (s : List UInt8) : Within (s ++ p.drop q.length) s := by
  obtain ⟨r, rfl, hr⟩ := h
  exact ⟨r, by simp, hr⟩
theorem moved_back {p q : List UInt8} (h : Within p q) (s : List UInt8) : q ++ (s ++ p.drop q.length).drop s.length = p := by
  obtain ⟨r, rfl, hr⟩ := h
  simp
/-- Behind one beginning and a slash: within as behind it. -/
theorem within_ahead (p a b : List UInt8) : Within (p ++ 47 :: a) (p ++ 47 :: b) ↔ Within a b := by
  constructor
  · rintro ⟨r, h, hr⟩
    refine ⟨r, ?_, hr⟩
    rw [List.append_assoc] at h
    have := List.append_cancel_left h
    simpa using this
  · rintro ⟨r, rfl, hr⟩
    exact ⟨r, by simp, hr⟩
theorem not_within_short (p t : List UInt8) : ¬ Within p (p ++ 47 :: t) := by
  rintro ⟨r, h, _⟩
  have := congrArg List.length h
  simp only [List.length_append, List.length_cons] at this
  omega

/-- A part's letters. -/
def letterN (x : Nat) : Bool := decide ((97 ≤ x ∧ x ≤ 122) ∨ (48 ≤ x ∧ x ≤ 57) ∨ x = 46 ∨ x = 95 ∨ x = 45)
def partOk (maxPart : Nat) (s : List UInt8) : Bool := decide (1 ≤ s.length) && decide (s.length ≤ maxPart) && decide (s ≠ [46]) && decide (s ≠ [46, 46]) && s.all fun b => letterN b.toNat
/-- What stands between the slashes. -/
def splitS : List UInt8 → List (List UInt8)
  | [] => [[]]
  | b :: l => if b = 47 then [] :: splitS l else match splitS l with
    | [] => [[b]]
    | x :: xs => (b :: x) :: xs
theorem splitS_ne (l : List UInt8) : splitS l ≠ [] := by
  cases l with
  | nil => simp [splitS]
  | cons b l =>
    unfold splitS
    split
    · simp
    · split <;> simp
def right (maxPart maxDeep : Nat) (s : List UInt8) : Bool := (splitS s).all (partOk maxPart) && decide ((splitS s).length ≤ maxDeep)
theorem splitS_none (l : List UInt8) (h : ∀ b ∈ l, b ≠ 47) : splitS l = [l] := by
  induction l with
  | nil => rfl
  | cons b l ih =>
    have hb := h b List.mem_cons_self
    have := ih (fun x hx => h x (List.mem_cons_of_mem _ hx))
    unfold splitS
    rw [if_neg hb, this]
theorem splitS_append (a l : List UInt8) : splitS (a ++ 47 :: l) = splitS a ++ splitS l := by
  induction a with
  | nil =>
    show splitS (47 :: l) = [[]] ++ splitS l
    rw [splitS, if_pos rfl]
    rfl
  | cons b a ih =>
    show splitS (b :: (a ++ 47 :: l)) = splitS (b :: a) ++ splitS l
    rw [splitS, splitS]
    by_cases hb : b = 47
    · rw [if_pos hb, if_pos hb, ih]
      rfl
    · rw [if_neg hb, if_neg hb, ih]
      match h : splitS a with
      | [] => exact absurd h (splitS_ne a)
      | x :: xs => rfl
/-- What stands ahead of the last slash. -/
def parentOf : List UInt8 → Option (List UInt8)
  | [] => none
  | b :: l => match parentOf l with
    | some p => some (b :: p)
    | none => if b = 47 then some [] else none
theorem parentOf_none (l : List UInt8) (h : ∀ b ∈ l, b ≠ 47) : parentOf l = none := by
  induction l with
  | nil => rfl
  | cons b l ih =>
    unfold parentOf
    rw [ih (fun x hx => h x (List.mem_cons_of_mem _ hx))]
    simp only [if_neg (h b List.mem_cons_self)]
theorem parentOf_behind (a t : List UInt8) (h : ∀ b ∈ t, b ≠ 47) : parentOf (a ++ 47 :: t) = some a := by
  induction a with
  | nil =>
    show parentOf (47 :: t) = some []
    unfold parentOf
    rw [parentOf_none t h]
    rfl
  | cons b a ih =>
    show parentOf (b :: (a ++ 47 :: t)) = some (b :: a)
    unfold parentOf
    rw [ih]
theorem parentOf_some : ∀ (l p : List UInt8), parentOf l = some p → ∃ t, l = p ++ 47 :: t ∧ ∀ b ∈ t, b ≠ 47
  | [], p, h => by simp [parentOf] at h
  | b :: l, p, h => by
    unfold parentOf at h
    cases hp : parentOf l with
    | some q =>
      rw [hp] at h
      obtain rfl := Option.some.inj h
      obtain ⟨t, rfl, ht⟩ := parentOf_some l q hp
      exact ⟨t, rfl, ht⟩
    | none =>
      rw [hp] at h
      by_cases hb : b = 47
      · simp only [if_pos hb] at h
        obtain rfl := Option.some.inj h
        subst hb
        refine ⟨l, rfl, ?_⟩
        intro x hx e
        subst e
        obtain ⟨u, v, rfl⟩ := List.append_of_mem hx
        have : parentOf (u ++ 47 :: v) ≠ none := by
          clear hp hx h
          induction u with
          | nil =>
            show parentOf (47 :: v) ≠ none
            unfold parentOf
            cases parentOf v <;> simp
          | cons c u ih =>
            show parentOf (c :: (u ++ 47 :: v)) ≠ none
            unfold parentOf
            cases hq : parentOf (u ++ 47 :: v) with
            | none => exact absurd hq ih
            | some q => simp
        exact absurd hp this
      · simp only [if_neg hb] at h
        exact absurd h (by simp)
theorem right_behind (mp md : Nat) (p t : List UInt8) (ht : ∀ b ∈ t, b ≠ 47) : right mp md (p ++ 47 :: t) = ((splitS p).all (partOk mp) && partOk mp t && decide ((splitS p).length + 1 ≤ md)) := by
  unfold right
  rw [splitS_append, splitS_none t ht, List.all_append, List.length_append]
  simp [Bool.and_assoc]
theorem right_parent (mp md : Nat) (s p : List UInt8) (h : right mp md s = true) (hp : parentOf s = some p) : right mp md p = true := by
  obtain ⟨t, rfl, ht⟩ := parentOf_some s p hp
  rw [right_behind mp md p t ht] at h
  simp only [Bool.and_eq_true, decide_eq_true_eq] at h
  unfold right
  rw [h.1.1, decide_eq_true (by omega)]
  rfl
theorem partOk_nil (mp : Nat) : partOk mp [] = false := rfl
theorem right_slash_behind (mp md : Nat) (p : List UInt8) : right mp md (p ++ [47]) = false := by
  have := right_behind mp md p [] (by simp)
  rw [this, partOk_nil]
  simp
theorem right_slash_ahead (mp md : Nat) (p : List UInt8) : right mp md (47 :: p) = false := by
  have := splitS_append [] p
  unfold right
  rw [show (47 :: p) = [] ++ 47 :: p from rfl, this]
  simp [splitS, partOk_nil]
/-- How deep. -/
theorem splitS_count (p : List UInt8) : (splitS p).length = 1 + p.count 47 := by
  induction p with
  | nil => rfl
  | cons b p ih =>
    unfold splitS
    by_cases hb : b = 47
    · rw [if_pos hb, List.length_cons, ih, hb, List.count_cons_self]
      omega
    · rw [if_neg hb, List.count_cons_of_ne hb, ← ih]
      match h : splitS p with
      | [] => exact absurd h (splitS_ne p)
      | x :: xs => rfl
theorem splitS_last (p : List UInt8) (c : UInt8) (hc : c ≠ 47) : ∃ x ∈ splitS (p ++ [c]), c ∈ x := by
  induction p with
  | nil => exact ⟨[c], by simp [splitS, hc], by simp⟩
  | cons b p ih =>
    obtain ⟨x, hx, hcx⟩ := ih
    show ∃ x ∈ splitS (b :: (p ++ [c])), c ∈ x
    unfold splitS
    by_cases hb : b = 47
    · rw [if_pos hb]
      exact ⟨x, List.mem_cons_of_mem _ hx, hcx⟩
    · rw [if_neg hb]
      match h : splitS (p ++ [c]) with
      | [] => exact absurd h (splitS_ne _)
      | y :: ys =>
        rw [h] at hx
        rcases List.mem_cons.1 hx with rfl | hx
        · exact ⟨b :: x, List.mem_cons_self, List.mem_cons_of_mem _ hcx⟩
        · exact ⟨x, List.mem_cons_of_mem _ hx, hcx⟩
theorem partOk_strange (mp : Nat) (x : List UInt8) (c : UInt8) (h : c ∈ x) (hl : letterN c.toNat = false) : partOk mp x = false := by
  unfold partOk
  rw [show (x.all fun b => letterN b.toNat) = false from by
    rw [List.all_eq_false]
    exact ⟨c, h, by simp [hl]⟩]
  simp
theorem right_strange (mp md : Nat) (p : List UInt8) (c : UInt8) (hc : c ≠ 47) (hl : letterN c.toNat = false) : right mp md (p ++ [c]) = false := by
  obtain ⟨x, hx, hcx⟩ := splitS_last p c hc
  unfold right
  rw [show (splitS (p ++ [c])).all (partOk mp) = false from by
    rw [List.all_eq_false]
    exact ⟨x, hx, by simp [partOk_strange mp x c hcx hl]⟩]
  simp
/-- In Bool, as the code asks it. -/
def withinB (p q : List UInt8) : Bool := q.isPrefixOf p && (decide (p.length = q.length) || decide (p[q.length]? = some 47))
theorem withinB_iff (p q : List UInt8) : withinB p q = true ↔ Within p q := by
  unfold withinB
  rw [Bool.and_eq_true, List.isPrefixOf_iff_prefix]
  constructor
  · rintro ⟨⟨r, rfl⟩, h⟩
    refine ⟨r, rfl, ?_⟩
    rw [Bool.or_eq_true, decide_eq_true_eq, decide_eq_true_eq] at h
    rcases h with h | h
    · left
      simp at h
      exact h
    · right
      rw [List.getElem?_append_right (Nat.le_refl _), Nat.sub_self] at h
      match r, h with
      | x :: t, h =>
        simp at h
        exact ⟨t, by rw [h]⟩
  · rintro ⟨r, rfl, h⟩
    refine ⟨⟨r, rfl⟩, ?_⟩
    rcases h with rfl | ⟨t, rfl⟩
    · simp
    · simp
end Go.Proofs.YtfiemgadoglhiaaDoor
