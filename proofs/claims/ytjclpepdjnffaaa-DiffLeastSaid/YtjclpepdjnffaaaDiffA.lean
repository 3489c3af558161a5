/- Plain laws of differences: the longest common part, the script of hunks, what it makes and costs. -/
set_option linter.unusedVariables false
set_option linter.unusedSimpArgs false
set_option linter.unusedSectionVars false
namespace Go.Proofs.Ytjclpepdjnffaaa
variable {α : Type} [DecidableEq α]

/-! ## the longest common part -/
def lcs : List α → List α → Nat
  | [], _ => 0
  | _ :: _, [] => 0
  | a :: as, b :: bs => if a = b then max (max (lcs as (b :: bs)) (lcs (a :: as) bs)) (lcs as bs + 1) else max (lcs as (b :: bs)) (lcs (a :: as) bs)
termination_by as bs => as.length + bs.length

theorem lcs_nil (b : List α) : lcs [] b = 0 := by rw [lcs.eq_def]
theorem lcs_nil2 (a : List α) : lcs a [] = 0 := by
  cases a with
  | nil => exact lcs_nil _
  | cons a as => rw [lcs.eq_def]
theorem lcs_cons (a b : α) (as bs : List α) : lcs (a :: as) (b :: bs) = if a = b then max (max (lcs as (b :: bs)) (lcs (a :: as) bs)) (lcs as bs + 1) else max (lcs as (b :: bs)) (lcs (a :: as) bs) := by
  rw [lcs.eq_def]

theorem lcs_le : ∀ (n : Nat) (a b s : List α), a.length + b.length ≤ n → s.Sublist a → s.Sublist b → s.length ≤ lcs a b := by
  intro n
  induction n with
  | zero =>
    intro a b s hn ha hb
    have := ha.length_le
    omega
  | succ n ih =>
    intro a b s hn ha hb
    match a, b with
    | [], b => have := ha.length_le; simp at this; simp [this]
    | a :: as, [] => have := hb.length_le; simp at this; simp [this]
    | a :: as, b :: bs =>
      simp only [List.length_cons] at hn
      rw [lcs_cons]
      have key : s.length ≤ max (lcs as (b :: bs)) (lcs (a :: as) bs) ∨ (a = b ∧ s.length ≤ lcs as bs + 1) := by
        cases ha with
        | cons _ ha => exact Or.inl (Nat.le_trans (ih as (b :: bs) s (by simp only [List.length_cons]; omega) ha hb) (Nat.le_max_left _ _))
        | cons_cons _ ha =>
          rename_i s'
          cases hb with
          | cons _ hb => exact Or.inl (Nat.le_trans (ih (a :: as) bs _ (by simp only [List.length_cons]; omega) (ha.cons_cons a) hb) (Nat.le_max_right _ _))
          | cons_cons _ hb =>
            refine Or.inr ⟨rfl, ?_⟩
            have := ih as bs s' (by omega) ha hb
            simp only [List.length_cons]
            omega
      rcases key with h | ⟨h, h2⟩
      · split <;> omega
      · rw [if_pos h]; omega

theorem lcs_ex : ∀ (n : Nat) (a b : List α), a.length + b.length ≤ n → ∃ s : List α, s.Sublist a ∧ s.Sublist b ∧ s.length = lcs a b := by
  intro n
  induction n with
  | zero =>
    intro a b hn
    exact ⟨[], List.nil_sublist _, List.nil_sublist _, by
      have : a = [] := List.length_eq_zero_iff.1 (by omega)
      rw [this, lcs_nil]; rfl⟩
  | succ n ih =>
    intro a b hn
    match a, b with
    | [], b => exact ⟨[], List.nil_sublist _, List.nil_sublist _, by rw [lcs_nil]; rfl⟩
    | a :: as, [] => exact ⟨[], List.nil_sublist _, List.nil_sublist _, by rw [lcs_nil2]; rfl⟩
    | a :: as, b :: bs =>
      simp only [List.length_cons] at hn
      obtain ⟨s1, h1, h2, e1⟩ := ih as (b :: bs) (by simp only [List.length_cons]; omega)
      obtain ⟨s2, h3, h4, e2⟩ := ih (a :: as) bs (by simp only [List.length_cons]; omega)
      obtain ⟨s3, h5, h6, e3⟩ := ih as bs (by omega)
      rw [lcs_cons]
      have hm : ∃ s : List α, s.Sublist (a :: as) ∧ s.Sublist (b :: bs) ∧ s.length = max (lcs as (b :: bs)) (lcs (a :: as) bs) := by
        rcases Nat.le_total (lcs as (b :: bs)) (lcs (a :: as) bs) with h | h
        · exact ⟨s2, h3, h4.cons b, by rw [e2]; omega⟩
        · exact ⟨s1, h1.cons a, h2, by rw [e1]; omega⟩
      by_cases hab : a = b
      · rw [if_pos hab]
        rcases Nat.le_total (max (lcs as (b :: bs)) (lcs (a :: as) bs)) (lcs as bs + 1) with h | h
        · refine ⟨a :: s3, h5.cons_cons a, by rw [hab]; exact h6.cons_cons b, ?_⟩
          simp only [List.length_cons]
          omega
        · obtain ⟨s, g1, g2, g3⟩ := hm
          exact ⟨s, g1, g2, by omega⟩
      · rw [if_neg hab]
        exact hm
theorem lcs_ub {a b s : List α} (ha : s.Sublist a) (hb : s.Sublist b) : s.length ≤ lcs a b := lcs_le _ a b s (Nat.le_refl _) ha hb
theorem lcs_at (a b : List α) : ∃ s : List α, s.Sublist a ∧ s.Sublist b ∧ s.length = lcs a b := lcs_ex _ a b (Nat.le_refl _)
theorem lcs_left (a b : List α) : lcs a b ≤ a.length := by
  obtain ⟨s, h, _, e⟩ := lcs_at a b
  rw [← e]; exact h.length_le
theorem lcs_right (a b : List α) : lcs a b ≤ b.length := by
  obtain ⟨s, _, h, e⟩ := lcs_at a b
  rw [← e]; exact h.length_le
theorem lcs_comm (a b : List α) : lcs a b = lcs b a := by
  apply Nat.le_antisymm
  · obtain ⟨s, h1, h2, e⟩ := lcs_at a b
    rw [← e]; exact lcs_ub h2 h1
  · obtain ⟨s, h1, h2, e⟩ := lcs_at b a
    rw [← e]; exact lcs_ub h2 h1
theorem lcs_self (a : List α) : lcs a a = a.length := Nat.le_antisymm (lcs_left _ _) (lcs_ub (List.Sublist.refl _) (List.Sublist.refl _))
theorem sub_tail {s a : List α} {c : α} (h : s.Sublist (c :: a)) : s.tail.Sublist a := by
  cases h with
  | cons _ h => exact (List.tail_sublist _).trans h
  | cons_cons _ h => exact h
theorem lcs_same (c : α) (a b : List α) : lcs (c :: a) (c :: b) = lcs a b + 1 := by
  apply Nat.le_antisymm
  · obtain ⟨s, h1, h2, e⟩ := lcs_at (c :: a) (c :: b)
    have := lcs_ub (sub_tail h1) (sub_tail h2)
    rw [List.length_tail] at this
    omega
  · obtain ⟨s, h1, h2, e⟩ := lcs_at a b
    have := lcs_ub (h1.cons_cons c) (h2.cons_cons c)
    simp only [List.length_cons] at this
    omega
theorem lcs_ahead (p a b : List α) : lcs (p ++ a) (p ++ b) = p.length + lcs a b := by
  induction p with
  | nil => simp
  | cons c p ih => rw [List.cons_append, List.cons_append, lcs_same, ih, List.length_cons]; omega
theorem lcs_reverse (a b : List α) : lcs a.reverse b.reverse = lcs a b := by
  apply Nat.le_antisymm
  · obtain ⟨s, h1, h2, e⟩ := lcs_at a.reverse b.reverse
    have := lcs_ub (s := s.reverse) (a := a) (b := b) (by simpa using h1.reverse) (by simpa using h2.reverse)
    rw [List.length_reverse] at this
    omega
  · obtain ⟨s, h1, h2, e⟩ := lcs_at a b
    have := lcs_ub h1.reverse h2.reverse
    rw [List.length_reverse] at this
    omega
theorem lcs_behind (q a b : List α) : lcs (a ++ q) (b ++ q) = lcs a b + q.length := by
  rw [← lcs_reverse, List.reverse_append, List.reverse_append, lcs_ahead, lcs_reverse, List.length_reverse, Nat.add_comm]
theorem lcs_joined (p q a b : List α) : lcs (p ++ a ++ q) (p ++ b ++ q) = p.length + lcs a b + q.length := by rw [lcs_behind, lcs_ahead]
theorem both_sub : ∀ (x s t : List α), s.Sublist x → t.Sublist x → ∃ u : List α, u.Sublist s ∧ u.Sublist t ∧ s.length + t.length ≤ x.length + u.length := by
  intro x
  induction x with
  | nil =>
    intro s t hs ht
    have := hs.length_le
    have := ht.length_le
    exact ⟨[], List.nil_sublist _, List.nil_sublist _, by omega⟩
  | cons c x ih =>
    intro s t hs ht
    cases hs with
    | cons _ hs =>
      cases ht with
      | cons _ ht =>
        obtain ⟨u, h1, h2, h3⟩ := ih s t hs ht
        exact ⟨u, h1, h2, by simp only [List.length_cons]; omega⟩
      | cons_cons _ ht =>
        rename_i t'
        obtain ⟨u, h1, h2, h3⟩ := ih s t' hs ht
        exact ⟨u, h1, h2.cons c, by simp only [List.length_cons]; omega⟩
    | cons_cons _ hs =>
      rename_i s'
      cases ht with
      | cons _ ht =>
        obtain ⟨u, h1, h2, h3⟩ := ih s' t hs ht
        exact ⟨u, h1.cons c, h2, by simp only [List.length_cons]; omega⟩
      | cons_cons _ ht =>
        rename_i t'
        obtain ⟨u, h1, h2, h3⟩ := ih s' t' hs ht
        exact ⟨c :: u, h1.cons_cons c, h2.cons_cons c, by simp only [List.length_cons]; omega⟩
/-- How far two rows lie apart. -/
def apartBy (a b : List α) : Nat := a.length + b.length - 2 * lcs a b
theorem apartBy_eq (a b : List α) : apartBy a b + 2 * lcs a b = a.length + b.length := by
  have := lcs_left a b
  have := lcs_right a b
  unfold apartBy
  omega
theorem apartBy_comm (a b : List α) : apartBy a b = apartBy b a := by
  unfold apartBy
  rw [lcs_comm a b]
  omega
theorem apartBy_trans (a x b : List α) : apartBy a b ≤ apartBy a x + apartBy x b := by
  have h1 := apartBy_eq a b
  have h2 := apartBy_eq a x
  have h3 := apartBy_eq x b
  obtain ⟨s, s1, s2, es⟩ := lcs_at a x
  obtain ⟨t, t1, t2, et⟩ := lcs_at x b
  obtain ⟨u, u1, u2, eu⟩ := both_sub x s t s2 t1
  have := lcs_ub (u1.trans s1) (u2.trans t2)
  omega

/-! ## hunks -/
structure Hk (α : Type) where
  pos : Nat
  old : List α
  new : List α
def Hk.cost (h : Hk α) : Nat := h.old.length + h.new.length
def costs (l : List (Hk α)) : Nat := (l.map Hk.cost).sum
theorem costs_append (l m : List (Hk α)) : costs (l ++ m) = costs l + costs m := by simp [costs]
theorem costs_one (h : Hk α) : costs [h] = h.old.length + h.new.length := by simp [costs, Hk.cost]

/-- What a hunk makes; none: its Old is not there. -/
def applied (x : List α) (h : Hk α) : Option (List α) :=
  if h.pos + h.old.length ≤ x.length ∧ (x.drop h.pos).take h.old.length = h.old then some (x.take h.pos ++ h.new ++ x.drop (h.pos + h.old.length)) else none
theorem applied_at (q r : List α) (h : Hk α) (hq : q.length = h.pos) : applied (q ++ h.old ++ r) h = some (q ++ h.new ++ r) := by
  have e1 : List.drop h.pos (q ++ h.old ++ r) = h.old ++ r := by rw [List.append_assoc, ← hq, List.drop_left]
  have e2 : List.take h.pos (q ++ h.old ++ r) = q := by rw [List.append_assoc, ← hq, List.take_left]
  have e3 : List.drop (h.pos + h.old.length) (q ++ h.old ++ r) = r := by rw [← List.drop_drop, e1, List.drop_left]
  unfold applied
  rw [e1, e2, e3, List.take_left, if_pos ⟨by simp only [List.length_append]; omega, rfl⟩]
theorem applied_inv {x y : List α} {h : Hk α} (e : applied x h = some y) : ∃ q r, x = q ++ h.old ++ r ∧ y = q ++ h.new ++ r ∧ q.length = h.pos := by
  unfold applied at e
  split at e
  · rename_i c
    refine ⟨x.take h.pos, x.drop (h.pos + h.old.length), ?_, (Option.some.inj e).symm, by rw [List.length_take]; omega⟩
    have e2 : x.drop h.pos = h.old ++ x.drop (h.pos + h.old.length) := by
      rw [← List.drop_drop]
      conv => lhs; rw [← List.take_append_drop h.old.length (x.drop h.pos), c.2]
    rw [List.append_assoc, ← e2, List.take_append_drop]
  · cases e
theorem apartBy_hunk (q o n r : List α) : apartBy (q ++ o ++ r) (q ++ n ++ r) ≤ o.length + n.length := by
  have h := apartBy_eq (q ++ o ++ r) (q ++ n ++ r)
  rw [lcs_joined] at h
  simp only [List.length_append] at h
  omega
/-- Hunks done one behind the other. -/
def done : List α → List (Hk α) → Option (List α)
  | x, [] => some x
  | x, h :: l => (applied x h).bind fun y => done y l
theorem done_apart : ∀ (l : List (Hk α)) (x y : List α), done x l = some y → apartBy x y ≤ costs l
  | [], x, y, e => by
    obtain rfl := Option.some.inj e
    unfold apartBy
    rw [lcs_self]
    omega
  | h :: l, x, y, e => by
    simp only [done] at e
    obtain ⟨z, hz, e⟩ := Option.bind_eq_some_iff.1 e
    obtain ⟨q, r, rfl, rfl, _⟩ := applied_inv hz
    have h1 := done_apart l _ _ e
    have h2 := apartBy_hunk q h.old h.new r
    have h3 := apartBy_trans (q ++ h.old ++ r) (q ++ h.new ++ r) y
    have h4 : costs (h :: l) = h.old.length + h.new.length + costs l := by simp [costs, Hk.cost]
    omega

/-! ## the script -/
def takeOut (k : Nat) (x : α) : Option (Hk α) → Hk α
  | none => ⟨k, [x], []⟩
  | some h => { h with old := h.old ++ [x] }
def putIn (k : Nat) (x : α) : Option (Hk α) → Hk α
  | none => ⟨k, [], [x]⟩
  | some h => { h with new := h.new ++ [x] }
/-- Is the first line of both kept? -/
def keeps (as bs : List α) : Bool := match as, bs with
  | a :: as, b :: bs => decide (a = b) && decide (lcs (a :: as) (b :: bs) = lcs as bs + 1)
  | _, _ => false
def script : List α → List α → Nat → Option (Hk α) → List (Hk α)
  | [], [], _, c => c.toList
  | [], b :: bs, k, c => script [] bs (k + 1) (some (putIn k b c))
  | a :: as, [], k, c => script as [] k (some (takeOut k a c))
  | a :: as, b :: bs, k, c =>
    if a = b ∧ lcs (a :: as) (b :: bs) = lcs as bs + 1 then c.toList ++ script as bs (k + 1) none
    else if lcs (a :: as) bs ≤ lcs as (b :: bs) then script as (b :: bs) k (some (takeOut k a c))
    else script (a :: as) bs (k + 1) (some (putIn k b c))
termination_by as bs => as.length + bs.length
theorem script_nil (k : Nat) (c : Option (Hk α)) : script [] [] k c = c.toList := by rw [script.eq_def]
theorem script_ins (b : α) (bs : List α) (k : Nat) (c : Option (Hk α)) : script [] (b :: bs) k c = script [] bs (k + 1) (some (putIn k b c)) := by rw [script.eq_def]
theorem script_del (a : α) (as : List α) (k : Nat) (c : Option (Hk α)) : script (a :: as) [] k c = script as [] k (some (takeOut k a c)) := by rw [script.eq_def]
theorem script_both (a b : α) (as bs : List α) (k : Nat) (c : Option (Hk α)) : script (a :: as) (b :: bs) k c =
    if a = b ∧ lcs (a :: as) (b :: bs) = lcs as bs + 1 then c.toList ++ script as bs (k + 1) none
    else if lcs (a :: as) bs ≤ lcs as (b :: bs) then script as (b :: bs) k (some (takeOut k a c))
    else script (a :: as) bs (k + 1) (some (putIn k b c)) := by rw [script.eq_def]
def cost0 : Option (Hk α) → Nat
  | none => 0
  | some h => h.old.length + h.new.length
theorem cost_takeOut (k : Nat) (x : α) (c : Option (Hk α)) : cost0 (some (takeOut k x c)) = cost0 c + 1 := by
  cases c with
  | none => rfl
  | some h => simp [cost0, takeOut]; omega
theorem cost_putIn (k : Nat) (x : α) (c : Option (Hk α)) : cost0 (some (putIn k x c)) = cost0 c + 1 := by
  cases c with
  | none => rfl
  | some h => simp [cost0, putIn]; omega
theorem costs_toList (c : Option (Hk α)) : costs c.toList = cost0 c := by
  cases c with
  | none => rfl
  | some h => simp [costs, cost0, Hk.cost]
theorem lcs_not {a b : α} {as bs : List α} (h : ¬ (a = b ∧ lcs (a :: as) (b :: bs) = lcs as bs + 1)) : lcs (a :: as) (b :: bs) = max (lcs as (b :: bs)) (lcs (a :: as) bs) := by
  have e := lcs_cons a b as bs
  by_cases hab : a = b
  · rw [if_pos hab] at e
    have : ¬ lcs (a :: as) (b :: bs) = lcs as bs + 1 := fun g => h ⟨hab, g⟩
    omega
  · rw [if_neg hab] at e
    exact e
theorem script_cost : ∀ (n : Nat) (as bs : List α) (k : Nat) (c : Option (Hk α)), as.length + bs.length ≤ n → costs (script as bs k c) = cost0 c + apartBy as bs := by
  intro n
  induction n with
  | zero =>
    intro as bs k c hn
    obtain rfl : as = [] := List.length_eq_zero_iff.1 (by omega)
    obtain rfl : bs = [] := List.length_eq_zero_iff.1 (by omega)
    rw [script_nil, costs_toList]
    simp [apartBy]
  | succ n ih =>
    intro as bs k c hn
    have hx := apartBy_eq as bs
    match as, bs with
    | [], [] => rw [script_nil, costs_toList]; simp [apartBy]
    | [], b :: bs =>
      simp only [List.length_cons, List.length_nil] at hn
      rw [script_ins, ih _ _ _ _ (by simp only [List.length_nil]; omega), cost_putIn]
      have h2 := apartBy_eq [] bs
      rw [lcs_nil] at hx h2
      simp only [List.length_cons, List.length_nil] at hx h2
      omega
    | a :: as, [] =>
      simp only [List.length_cons, List.length_nil] at hn
      rw [script_del, ih _ _ _ _ (by simp only [List.length_nil]; omega), cost_takeOut]
      have h2 := apartBy_eq as []
      rw [lcs_nil2] at hx h2
      simp only [List.length_cons, List.length_nil] at hx h2
      omega
    | a :: as, b :: bs =>
      simp only [List.length_cons] at hn hx
      rw [script_both]
      split
      · rename_i hk
        rw [costs_append, costs_toList, ih _ _ _ _ (by omega)]
        have h2 := apartBy_eq as bs
        rw [hk.2] at hx
        simp only [cost0]
        omega
      · rename_i hk
        have hm := lcs_not hk
        split
        · rw [ih _ _ _ _ (by simp only [List.length_cons]; omega), cost_takeOut]
          have h2 := apartBy_eq as (b :: bs)
          simp only [List.length_cons] at h2
          omega
        · rw [ih _ _ _ _ (by simp only [List.length_cons]; omega), cost_putIn]
          have h2 := apartBy_eq (a :: as) bs
          simp only [List.length_cons] at h2
          omega
/-- The hunks of two rows. -/
def hunks (a b : List α) : List (Hk α) := script a b 0 none
theorem hunks_cost (a b : List α) : costs (hunks a b) = apartBy a b := by
  rw [hunks, script_cost _ a b 0 none (Nat.le_refl _)]
  simp [cost0]

/-- Hunks done one behind the other; none is empty; a line stays between two. -/
def Makes : List α → Nat → List (Hk α) → List α → Prop
  | x, _, [], z => x = z
  | x, m, h :: l, z => h.old.length + h.new.length ≠ 0 ∧ m ≤ h.pos ∧ ∃ q r, x = q ++ h.old ++ r ∧ q.length = h.pos ∧ Makes (q ++ h.new ++ r) (h.pos + h.new.length + 1) l z
theorem script_makes : ∀ (n : Nat) (as bs : List α), as.length + bs.length ≤ n →
    (∀ (p : List α) (m : Nat), m ≤ p.length → Makes (p ++ as) m (script as bs p.length none) (p ++ bs)) ∧
    (∀ (q : List α) (h : Hk α) (m : Nat), q.length = h.pos → m ≤ h.pos → h.old.length + h.new.length ≠ 0 → Makes (q ++ h.old ++ as) m (script as bs (q ++ h.new).length (some h)) (q ++ h.new ++ bs)) := by
  intro n
  induction n with
  | zero =>
    intro as bs hn
    obtain rfl : as = [] := List.length_eq_zero_iff.1 (by omega)
    obtain rfl : bs = [] := List.length_eq_zero_iff.1 (by omega)
    refine ⟨fun p m hm => ?_, fun q h m hq hm hc => ?_⟩
    · rw [script_nil]; rfl
    · rw [script_nil]
      exact ⟨hc, hm, q, [], rfl, hq, rfl⟩
  | succ n ih =>
    intro as bs hn
    match as, bs with
    | [], [] =>
      refine ⟨fun p m hm => ?_, fun q h m hq hm hc => ?_⟩
      · rw [script_nil]; rfl
      · rw [script_nil]
        exact ⟨hc, hm, q, [], rfl, hq, rfl⟩
    | [], b :: bs =>
      simp only [List.length_cons, List.length_nil] at hn
      obtain ⟨_, ih2⟩ := ih [] bs (by simp only [List.length_nil]; omega)
      refine ⟨fun p m hm => ?_, fun q h m hq hm hc => ?_⟩
      · rw [script_ins]
        have := ih2 p ⟨p.length, [], [b]⟩ m rfl hm (by simp)
        simpa [putIn] using this
      · rw [script_ins]
        have := ih2 q { h with new := h.new ++ [b] } m hq hm (by simp)
        simpa [putIn, Nat.add_assoc] using this
    | a :: as, [] =>
      simp only [List.length_cons, List.length_nil] at hn
      obtain ⟨_, ih2⟩ := ih as [] (by simp only [List.length_nil]; omega)
      refine ⟨fun p m hm => ?_, fun q h m hq hm hc => ?_⟩
      · rw [script_del]
        have := ih2 p ⟨p.length, [a], []⟩ m rfl hm (by simp)
        simpa [takeOut] using this
      · rw [script_del]
        have := ih2 q { h with old := h.old ++ [a] } m hq hm (by simp)
        simpa [takeOut] using this
    | a :: as, b :: bs =>
      simp only [List.length_cons] at hn
      have i1 := ih as bs (by omega)
      have i2 := ih as (b :: bs) (by simp only [List.length_cons]; omega)
      have i3 := ih (a :: as) bs (by simp only [List.length_cons]; omega)
      refine ⟨fun p m hm => ?_, fun q h m hq hm hc => ?_⟩
      · rw [script_both]
        split
        · rename_i hk
          obtain ⟨rfl, _⟩ := hk
          have := i1.1 (p ++ [a]) m (by simp; omega)
          simpa using this
        · split
          · have := i2.2 p ⟨p.length, [a], []⟩ m rfl hm (by simp)
            simpa [takeOut] using this
          · have := i3.2 p ⟨p.length, [], [b]⟩ m rfl hm (by simp)
            simpa [putIn] using this
      · rw [script_both]
        split
        · rename_i hk
          obtain ⟨rfl, _⟩ := hk
          refine ⟨hc, hm, q, a :: as, by simp, hq, ?_⟩
          have := i1.1 (q ++ h.new ++ [a]) (h.pos + h.new.length + 1) (by simp; omega)
          simpa [Nat.add_assoc] using this
        · split
          · have := i2.2 q { h with old := h.old ++ [a] } m hq hm (by simp)
            simpa [takeOut] using this
          · have := i3.2 q { h with new := h.new ++ [b] } m hq hm (by simp)
            simpa [putIn, Nat.add_assoc] using this
theorem hunks_makes (a b : List α) : Makes a 0 (hunks a b) b := by
  have := (script_makes _ a b (Nat.le_refl _)).1 [] 0 (Nat.le_refl _)
  rw [hunks]
  simpa using this
theorem makes_costs : ∀ (l : List (Hk α)) (x : List α) (m : Nat) (z : List α), Makes x m l z → costs l = 0 → l = []
  | [], _, _, _, _, _ => rfl
  | h :: l, x, m, z, hm, hc => by
    have h4 : costs (h :: l) = h.old.length + h.new.length + costs l := by simp [costs, Hk.cost]
    have := hm.1
    omega
theorem hunks_none (a b : List α) : hunks a b = [] ↔ a = b := by
  constructor
  · intro h
    have := hunks_makes a b
    rw [h] at this
    exact this
  · rintro rfl
    refine makes_costs _ _ _ _ (hunks_makes a a) ?_
    rw [hunks_cost]
    unfold apartBy
    rw [lcs_self]
    omega
theorem makes_done : ∀ (l : List (Hk α)) (x : List α) (m : Nat) (z : List α), Makes x m l z → done x l = some z
  | [], x, m, z, h => by rw [show x = z from h]; rfl
  | h :: l, x, m, z, hm => by
    obtain ⟨_, _, q, r, rfl, hq, hl⟩ := hm
    rw [done, applied_at q r h hq]
    exact makes_done l _ _ _ hl
end Go.Proofs.Ytjclpepdjnffaaa
