/- Files by their names, rising: plain, and as a map of slices reads. -/
import Derived.Test.YtbfpmlblnfablaaWWords
import Derived.Test.YtbfpmlblnfablaaWLast
import Derived.Maps.RangeWalk
import Derived.Maps.Ext
set_option linter.unusedVariables false
set_option linter.unusedSimpArgs false
namespace Go.Proofs.Ytbfpmlblnfablaa
open Go.RowKit Go.Proofs.YtbfpmlblnfablaaW.PrintWords Go.Proofs.YtbfpmlblnfablaaW.PrintLast

section
variable {α β γ : Type}
def bef (a b : ByteArray) : Bool := bytesBefore a.data.toList b.data.toList
theorem bytes_inj {a b : ByteArray} (h : a.data.toList = b.data.toList) : a = b := by
  cases a; cases b
  simp at h
  exact congrArg ByteArray.mk (Array.toList_inj.1 (by simpa using h))
def ins (x : ByteArray × β) : List (ByteArray × β) → List (ByteArray × β)
  | [] => [x]
  | y :: r => if bef x.1 y.1 = true then x :: y :: r else y :: ins x r
def del (l : List (ByteArray × β)) (n : ByteArray) : List (ByteArray × β) := l.filter fun p => !decide (p.1 = n)
def put (l : List (ByteArray × β)) (n : ByteArray) (d : β) : List (ByteArray × β) := ins (n, d) (del l n)
def look (l : List (ByteArray × β)) (n : ByteArray) : Option β := (l.find? fun p => decide (p.1 = n)).map (·.2)

theorem find_ins_same (n : ByteArray) (d : β) : ∀ l : List (ByteArray × β), (∀ p ∈ l, p.1 ≠ n) → (ins (n, d) l).find? (fun p => decide (p.1 = n)) = some (n, d)
  | [], _ => by simp [ins]
  | y :: r, h => by
    unfold ins
    split
    · simp
    · have := h y (by simp)
      simp [this, find_ins_same n d r (fun p hp => h p (by simp [hp]))]
theorem find_ins_other {n m : ByteArray} (hne : n ≠ m) (d : β) : ∀ l : List (ByteArray × β), (ins (n, d) l).find? (fun p => decide (p.1 = m)) = l.find? (fun p => decide (p.1 = m))
  | [] => by simp [ins, hne]
  | y :: r => by
    unfold ins
    split
    · simp [hne]
    · simp [List.find?_cons, find_ins_other hne d r]
theorem mem_ins {x p : ByteArray × β} : ∀ l : List (ByteArray × β), p ∈ ins x l ↔ p = x ∨ p ∈ l
  | [] => by simp [ins]
  | y :: r => by
    unfold ins
    split
    · simp
    · simp only [List.mem_cons, mem_ins r]
      constructor
      · rintro (h | h | h)
        · exact .inr (.inl h)
        · exact .inl h
        · exact .inr (.inr h)
      · rintro (h | h | h)
        · exact .inr (.inl h)
        · exact .inl h
        · exact .inr (.inr h)
theorem length_ins (x : ByteArray × β) : ∀ l : List (ByteArray × β), (ins x l).length = l.length + 1
  | [] => rfl
  | y :: r => by
    unfold ins
    split
    · simp
    · simp [length_ins x r]
theorem mem_del {l : List (ByteArray × β)} {n : ByteArray} {p : ByteArray × β} : p ∈ del l n ↔ p ∈ l ∧ p.1 ≠ n := by
  unfold del
  simp [List.mem_filter]
theorem look_put_same (l : List (ByteArray × β)) (n : ByteArray) (d : β) : look (put l n d) n = some d := by
  unfold look put
  rw [find_ins_same n d _ (fun p hp => (mem_del.1 hp).2)]
  rfl
theorem look_put_other (l : List (ByteArray × β)) {n m : ByteArray} (h : n ≠ m) (d : β) : look (put l n d) m = look (del l n) m := by
  unfold look put
  rw [find_ins_other h]
theorem find_filter_of {α : Type} {f g : α → Bool} (h : ∀ p, f p = true → g p = true) : ∀ l : List α, (l.filter g).find? f = l.find? f
  | [] => rfl
  | y :: r => by
    by_cases hg : g y = true
    · rw [List.filter_cons_of_pos hg, List.find?_cons, List.find?_cons, find_filter_of h r]
    · rw [List.filter_cons_of_neg hg, List.find?_cons, find_filter_of h r]
      cases hf : f y
      · rfl
      · exact absurd (h y hf) hg
theorem look_del_same (l : List (ByteArray × β)) (n : ByteArray) : look (del l n) n = none := by
  unfold look
  rw [List.find?_eq_none.2 (fun p hp => by simpa using (mem_del.1 hp).2)]
  rfl
theorem look_del_other (l : List (ByteArray × β)) {n m : ByteArray} (h : n ≠ m) : look (del l n) m = look l m := by
  unfold look del
  rw [find_filter_of (fun p hp => by
    have : p.1 = m := by simpa using hp
    simp [this, Ne.symm h])]
theorem look_put_far (l : List (ByteArray × β)) {n m : ByteArray} (h : n ≠ m) (d : β) : look (put l n d) m = look l m := by rw [look_put_other l h, look_del_other l h]
theorem length_del (l : List (ByteArray × β)) (n : ByteArray) : (del l n).length ≤ l.length := List.length_filter_le _ _
theorem length_put (l : List (ByteArray × β)) (n : ByteArray) (d : β) : (put l n d).length ≤ l.length + 1 := by
  unfold put
  rw [length_ins]
  have := length_del l n
  omega
theorem look_mem {l : List (ByteArray × β)} {n : ByteArray} {d : β} (h : look l n = some d) : (n, d) ∈ l := by
  unfold look at h
  cases hf : l.find? (fun p => decide (p.1 = n)) with
  | none => rw [hf] at h; cases h
  | some p =>
    rw [hf] at h
    have h1 := List.mem_of_find?_eq_some hf
    have h2 := List.find?_some hf
    simp at h h2
    rw [← h2, ← h]
    exact h1
theorem look_none {l : List (ByteArray × β)} {n : ByteArray} : look l n = none ↔ ∀ p ∈ l, p.1 ≠ n := by
  unfold look
  rw [Option.map_eq_none_iff, List.find?_eq_none]
  simp

/-! ## two lists, element by element -/
def All2 (R : α → β → Prop) : List α → List β → Prop
  | [], [] => True
  | a :: l, b :: m => R a b ∧ All2 R l m
  | _, _ => False
theorem All2.imp {R R' : α → β → Prop} (hR : ∀ a b, R a b → R' a b) : ∀ {l : List α} {m : List β}, All2 R l m → All2 R' l m
  | [], [], _ => trivial
  | _ :: _, _ :: _, h => ⟨hR _ _ h.1, All2.imp hR h.2⟩
theorem All2.length {R : α → β → Prop} : ∀ {l : List α} {m : List β}, All2 R l m → l.length = m.length
  | [], [], _ => rfl
  | _ :: _, _ :: _, h => by simp [All2.length h.2]
theorem All2.get {R : α → β → Prop} : ∀ {l : List α} {m : List β} {i : Nat} {b : β}, All2 R l m → m[i]? = some b → ∃ a, l[i]? = some a ∧ R a b
  | [], [], i, b, _, h => by simp at h
  | a :: l, b' :: m, 0, b, h, hb => by
    simp at hb
    subst hb
    exact ⟨a, by simp, h.1⟩
  | a :: l, b' :: m, i + 1, b, h, hb => by
    obtain ⟨x, hx, hr⟩ := All2.get (i := i) h.2 (by simpa using hb)
    exact ⟨x, by simpa using hx, hr⟩
theorem All2.snoc {R : α → β → Prop} {a : α} {b : β} (hr : R a b) : ∀ {l : List α} {m : List β}, All2 R l m → All2 R (l ++ [a]) (m ++ [b])
  | [], [], _ => ⟨hr, trivial⟩
  | _ :: _, _ :: _, h => ⟨h.1, All2.snoc hr h.2⟩
section
variable {R : ByteArray × β → ByteArray × γ → Prop} (hR : ∀ a b, R a b → a.1 = b.1)
include hR
theorem All2.ins {x : ByteArray × β} {y : ByteArray × γ} (hx : R x y) : ∀ {l : List (ByteArray × β)} {m : List (ByteArray × γ)}, All2 R l m → All2 R (ins x l) (Ytbfpmlblnfablaa.ins y m)
  | [], [], _ => ⟨hx, trivial⟩
  | a :: l, b :: m, h => by
    unfold Ytbfpmlblnfablaa.ins
    rw [hR _ _ hx, hR _ _ h.1]
    split
    · exact ⟨hx, h⟩
    · exact ⟨h.1, All2.ins hx h.2⟩
theorem All2.del (n : ByteArray) : ∀ {l : List (ByteArray × β)} {m : List (ByteArray × γ)}, All2 R l m → All2 R (Ytbfpmlblnfablaa.del l n) (Ytbfpmlblnfablaa.del m n)
  | [], [], _ => trivial
  | a :: l, b :: m, h => by
    unfold Ytbfpmlblnfablaa.del
    rw [List.filter_cons, List.filter_cons, hR _ _ h.1]
    split
    · exact ⟨h.1, All2.del n h.2⟩
    · exact All2.del n h.2
theorem All2.put {n : ByteArray} {d : β} {d' : γ} (hd : R (n, d) (n, d')) {l : List (ByteArray × β)} {m : List (ByteArray × γ)} (h : All2 R l m) : All2 R (Ytbfpmlblnfablaa.put l n d) (Ytbfpmlblnfablaa.put m n d') := All2.ins hR hd (All2.del hR n h)
theorem All2.look (n : ByteArray) : ∀ {l : List (ByteArray × β)} {m : List (ByteArray × γ)}, All2 R l m → (Ytbfpmlblnfablaa.look l n = none ∧ Ytbfpmlblnfablaa.look m n = none) ∨ ∃ d d', Ytbfpmlblnfablaa.look l n = some d ∧ Ytbfpmlblnfablaa.look m n = some d' ∧ R (n, d) (n, d')
  | [], [], _ => Or.inl ⟨rfl, rfl⟩
  | a :: l, b :: m, h => by
    unfold Ytbfpmlblnfablaa.look
    rw [List.find?_cons, List.find?_cons, hR _ _ h.1]
    by_cases hb : b.1 = n
    · simp only [hb, decide_true, Option.map_some]
      refine Or.inr ⟨_, _, rfl, rfl, ?_⟩
      have ha : a.1 = n := (hR _ _ h.1).trans hb
      have h1 := h.1
      cases a
      cases b
      simp only at ha hb
      subst ha hb
      exact h1
    · simp only [hb, decide_false]
      exact All2.look n h.2
end

/-! ## as a map reads -/
end
def entW (x : ByteArray × Value) : Lit × DataW Value := (.string x.1.data.toList, .held x.2)
abbrev mapW (vs : List (ByteArray × Value)) : DataW Value := .map (vs.map entW)
theorem entW_ins (x : ByteArray × Value) : ∀ l : List (ByteArray × Value), DataW.insert (entW x) (l.map entW) = (ins x l).map entW
  | [] => rfl
  | y :: r => by
    unfold ins
    rw [List.map_cons, DataW.insert]
    have e : (entW x).1.before (entW y).1 = bef x.1 y.1 := rfl
    rw [e, entW_ins x r]
    split <;> rfl
theorem same_key (x : ByteArray × Value) (n : ByteArray) : (entW x).1.sameKey (.string n.data.toList) = decide (x.1 = n) := by
  show (x.1.data.toList == n.data.toList) = _
  rw [Bool.eq_iff_iff, beq_iff_eq, decide_eq_true_iff]
  exact ⟨bytes_inj, fun h => by rw [h]⟩
theorem mapW_filter (l : List (ByteArray × Value)) (n : ByteArray) : (l.map entW).filter (fun p => !p.1.sameKey (.string n.data.toList)) = (del l n).map entW := by
  unfold del
  rw [List.filter_map]
  congr 1
  refine List.filter_congr (fun x _ => ?_)
  show (!(entW x).1.sameKey _) = _
  rw [same_key]
theorem mapW_del (l : List (ByteArray × Value)) (n : ByteArray) : (mapW l).del (.string n.data.toList) = mapW (del l n) := congrArg DataW.map (mapW_filter l n)
theorem mapW_put (l : List (ByteArray × Value)) (n : ByteArray) (v : Value) : (mapW l).put (.string n.data.toList) (.held v) = mapW (put l n v) := by
  show DataW.map (DataW.insert (entW (n, v)) ((l.map entW).filter _)) = _
  rw [mapW_filter, entW_ins]
  rfl
theorem mapW_find (l : List (ByteArray × Value)) (n : ByteArray) : (l.map entW).find? (fun p => p.1.sameKey (.string n.data.toList)) = (l.find? fun p => decide (p.1 = n)).map entW := by
  rw [List.find?_map]
  congr 1
  congr 1
  funext x
  exact same_key x n
theorem any_find {α : Type} (f : α → Bool) : ∀ l : List α, l.any f = (l.find? f).isSome
  | [] => rfl
  | a :: l => by
    rw [List.any_cons, List.find?_cons, any_find f l]
    cases f a <;> rfl
theorem mapW_has (l : List (ByteArray × Value)) (n : ByteArray) : Maps.has (mapW l) (.string n.data.toList) = (look l n).isSome := by
  show (l.map entW).any _ = _
  unfold look
  rw [any_find, mapW_find]
  cases l.find? fun p => decide (p.1 = n) <;> rfl
theorem mapW_at (l : List (ByteArray × Value)) (n : ByteArray) (z : Value) : (mapW l).atKey (.string n.data.toList) (.held z) = .held ((look l n).getD z) := by
  unfold mapW DataW.atKey
  simp only
  rw [mapW_find]
  unfold look
  cases l.find? fun p => decide (p.1 = n) <;> rfl
end Go.Proofs.Ytbfpmlblnfablaa
