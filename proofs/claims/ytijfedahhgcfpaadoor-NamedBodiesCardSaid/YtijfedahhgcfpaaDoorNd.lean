/- Lines and tokens in plain Lean (chapter 05; no program in sight). -/
import Derived.Below
import Derived.Test.YtijfedahhgcfpaaDoorProg
import Derived.WalkKit
import Derived.WalkSpells
import Derived.WalkLawsBesides
import Derived.Lib.Hide
import Derived.Test.YtijfedahhgcfpaaDoorShelf
import Derived.Test.YtijfedahhgcfpaaDoorWWords
import Derived.Test.YtijfedahhgcfpaaDoorWLast
set_option linter.unusedVariables false
namespace Go.Proofs.YtijfedahhgcfpaaDoor.Ln

/-- A byte of a token. -/
def inN (x : Nat) : Bool := decide (x = 95 ∨ (97 ≤ x ∧ x ≤ 122) ∨ (65 ≤ x ∧ x ≤ 90) ∨ (48 ≤ x ∧ x ≤ 57))
def inB (b : UInt8) : Bool := inN b.toNat
def tokenB (l : List UInt8) : Bool := !l.isEmpty && l.all inB
abbrev Piece := List UInt8 × Bool
/-- A line's pieces: the longest runs of one kind. -/
def pieces : List UInt8 → List Piece
  | [] => []
  | b :: l => match pieces l with
    | [] => [([b], inB b)]
    | (x, t) :: r => if inB b = t then (b :: x, t) :: r else ([b], inB b) :: (x, t) :: r
def flat (ps : List Piece) : List UInt8 := (ps.map Prod.fst).flatten
/-- Pieces that may be some line's. -/
def Alt : List Piece → Prop
  | [] => True
  | (x, t) :: r => x ≠ [] ∧ (∀ b ∈ x, inB b = t) ∧ (∀ y s, r.head? = some (y, s) → s ≠ t) ∧ Alt r
theorem flat_cons (p : Piece) (r : List Piece) : flat (p :: r) = p.1 ++ flat r := by simp [flat]
theorem pieces_alt (l : List UInt8) : Alt (pieces l) ∧ flat (pieces l) = l := by
  induction l with
  | nil => exact ⟨trivial, rfl⟩
  | cons b l ih =>
    obtain ⟨h1, h2⟩ := ih
    unfold pieces
    cases hp : pieces l with
    | nil =>
      rw [hp] at h2
      subst h2
      exact ⟨⟨by simp, by simp, by simp, trivial⟩, rfl⟩
    | cons p r =>
      obtain ⟨x, t⟩ := p
      rw [hp] at h1 h2
      obtain ⟨a1, a2, a3, a4⟩ := h1
      by_cases e : inB b = t
      · simp only [if_pos e]
        refine ⟨⟨by simp, ?_, a3, a4⟩, ?_⟩
        · intro c hc
          rcases List.mem_cons.1 hc with rfl | hc
          · exact e
          · exact a2 c hc
        · rw [flat_cons] at h2 ⊢
          rw [← h2]
          rfl
      · simp only [if_neg e]
        refine ⟨⟨by simp, by simp, ?_, a1, a2, a3, a4⟩, ?_⟩
        · intro y s hy
          obtain ⟨rfl, rfl⟩ := Prod.mk.inj (Option.some.inj hy)
          exact fun h => e h.symm
        · rw [flat_cons, h2]
          rfl
theorem pieces_run : ∀ (x : List UInt8) (t : Bool) (r : List Piece), x ≠ [] → (∀ b ∈ x, inB b = t) → (∀ y s, r.head? = some (y, s) → s ≠ t) → pieces (flat r) = r → pieces (x ++ flat r) = (x, t) :: r
  | [], _, _, h, _, _, _ => absurd rfl h
  | [b], t, r, _, hb, hr, hp => by
    have e : inB b = t := hb b (by simp)
    show pieces (b :: flat r) = _
    unfold pieces
    rw [hp]
    cases r with
    | nil => simp [e]
    | cons p r =>
      obtain ⟨y, s⟩ := p
      have hs := hr y s rfl
      simp only [e]
      rw [if_neg (fun h => hs h.symm)]
  | b :: c :: x, t, r, _, hb, hr, hp => by
    have e : inB b = t := hb b (by simp)
    have ih := pieces_run (c :: x) t r (by simp) (fun d hd => hb d (List.mem_cons_of_mem _ hd)) hr hp
    show pieces (b :: ((c :: x) ++ flat r)) = _
    rw [pieces, ih]
    simp only [if_pos e]
theorem pieces_flat : ∀ (ps : List Piece), Alt ps → pieces (flat ps) = ps
  | [], _ => rfl
  | (x, t) :: r, ⟨h1, h2, h3, h4⟩ => by
    rw [flat_cons]
    exact pieces_run x t r h1 h2 h3 (pieces_flat r h4)
/-- A piece with a token in its place. -/
def swap (f t : List UInt8) (p : Piece) : Piece := if p.2 = true ∧ p.1 = f then (t, true) else p
def replaced (l f t : List UInt8) : List UInt8 := flat ((pieces l).map (swap f t))
theorem tokenB_iff (l : List UInt8) : tokenB l = true ↔ l ≠ [] ∧ ∀ b ∈ l, inB b = true := by
  unfold tokenB
  rw [Bool.and_eq_true, List.all_eq_true]
  cases l <;> simp
theorem swap_kind (f t : List UInt8) (p : Piece) : (swap f t p).2 = p.2 := by
  unfold swap
  split
  · rename_i h
    exact h.1.symm
  · rfl
theorem alt_swap (f t : List UInt8) (ht : tokenB t = true) : ∀ ps : List Piece, Alt ps → Alt (ps.map (swap f t))
  | [], _ => trivial
  | (x, k) :: r, ⟨h1, h2, h3, h4⟩ => by
    obtain ⟨t1, t2⟩ := (tokenB_iff t).1 ht
    have hk : (swap f t (x, k)).2 = k := swap_kind f t (x, k)
    have e : swap f t (x, k) = ((swap f t (x, k)).1, k) := Prod.ext rfl hk
    rw [List.map_cons, e]
    refine ⟨?_, ?_, ?_, alt_swap f t ht r h4⟩
    · unfold swap
      split
      · exact t1
      · exact h1
    · unfold swap
      split
      · rename_i h
        intro b hb
        have hk1 : k = true := h.1
        rw [hk1]
        exact t2 b hb
      · exact h2
    · intro y s hy
      rw [List.head?_map] at hy
      obtain ⟨q, hq, e2⟩ := Option.map_eq_some_iff.1 hy
      have := swap_kind f t q
      rw [e2] at this
      rw [show s = q.2 from this]
      exact h3 q.1 q.2 hq
theorem pieces_replaced (l f t : List UInt8) (ht : tokenB t = true) : pieces (replaced l f t) = (pieces l).map (swap f t) := pieces_flat _ (alt_swap f t ht _ (pieces_alt l).1)
theorem swap_self (f : List UInt8) (p : Piece) : swap f f p = p := by
  unfold swap
  split
  · rename_i h
    obtain ⟨x, k⟩ := p
    exact Prod.ext h.2.symm h.1.symm
  · rfl
theorem replaced_self (l f : List UInt8) : replaced l f f = l := by
  unfold replaced
  rw [show swap f f = id from funext (swap_self f), List.map_id]
  exact (pieces_alt l).2
theorem alt_token : ∀ (ps : List Piece), Alt ps → ∀ p ∈ ps, tokenB p.1 = p.2 ∧ p.1 ≠ []
  | [], _, p, hp => by cases hp
  | (x, k) :: r, ⟨h1, h2, h3, h4⟩, p, hp => by
    rcases List.mem_cons.1 hp with rfl | hp
    · refine ⟨?_, h1⟩
      cases k with
      | true => exact (tokenB_iff x).2 ⟨h1, h2⟩
      | false =>
        rw [Bool.eq_false_iff]
        intro h
        obtain ⟨_, h5⟩ := (tokenB_iff x).1 h
        cases x with
        | nil => exact h1 rfl
        | cons b x =>
          have e1 := h5 b (by simp)
          have e2 := h2 b (by simp)
          rw [e1] at e2
          cases e2
    · exact alt_token r h4 p hp
theorem swap_gone (f t : List UInt8) (hf : tokenB f = true) (hft : f ≠ t) (ps : List Piece) (h : Alt ps) : ∀ p ∈ ps.map (swap f t), p.1 ≠ f := by
  intro p hp e
  obtain ⟨q, hq, rfl⟩ := List.mem_map.1 hp
  have := alt_token ps h q hq
  unfold swap at e
  split at e
  · exact hft e.symm
  · rename_i hn
    apply hn
    refine ⟨?_, e⟩
    rw [← this.1, e, hf]
theorem swap_back (f t : List UInt8) (p : Piece) (h : p.1 ≠ t) : swap t f (swap f t p) = p := by
  unfold swap
  by_cases c : p.2 = true ∧ p.1 = f
  · rw [if_pos c, if_pos ⟨rfl, rfl⟩]
    obtain ⟨x, k⟩ := p
    exact Prod.ext c.2.symm c.1.symm
  · rw [if_neg c, if_neg (fun h2 => h h2.2)]
theorem replaced_back (l f t : List UInt8) (ht : tokenB t = true) (h : ∀ p ∈ pieces l, p.1 ≠ t) : replaced (replaced l f t) t f = l := by
  have e := pieces_replaced l f t ht
  show flat ((pieces (replaced l f t)).map (swap t f)) = l
  rw [e, List.map_map]
  rw [show (pieces l).map (swap t f ∘ swap f t) = (pieces l).map id from List.map_congr_left (fun p hp => swap_back f t p (h p hp)), List.map_id]
  exact (pieces_alt l).2
theorem replaced_not (l f t : List UInt8) (h : ∀ p ∈ pieces l, p.2 = true → p.1 ≠ f) : replaced l f t = l := by
  unfold replaced
  rw [show (pieces l).map (swap f t) = (pieces l).map id from List.map_congr_left (fun p hp => by
    unfold swap
    rw [if_neg (fun c => h p hp c.1 c.2)]
    rfl), List.map_id]
  exact (pieces_alt l).2
theorem replaced_none (l f t : List UInt8) (h : tokenB f = false) : replaced l f t = l := by
  apply replaced_not
  intro p hp hk e
  have := alt_token _ (pieces_alt l).1 p hp
  rw [e, h, hk] at this
  cases this.1
theorem pieces_token (t : List UInt8) (h : tokenB t = true) : pieces t = [(t, true)] := by
  obtain ⟨h1, h2⟩ := (tokenB_iff t).1 h
  have := pieces_run t true [] h1 h2 (by simp) rfl
  simpa [flat] using this

/-! ## lines -/
/-- A text's lines, each ended by a byte 10; what stands behind the last one. -/
def linesOf : List UInt8 → List (List UInt8) × List UInt8
  | [] => ([], [])
  | b :: l => if b = 10 then ([] :: (linesOf l).1, (linesOf l).2) else match linesOf l with
    | ([], r) => ([], b :: r)
    | (x :: xs, r) => ((b :: x) :: xs, r)
def textOf (ls : List (List UInt8)) : List UInt8 := (ls.map fun x => x ++ [10]).flatten
theorem linesOf_text (l : List UInt8) : textOf (linesOf l).1 ++ (linesOf l).2 = l := by
  induction l with
  | nil => rfl
  | cons b l ih =>
    unfold linesOf
    by_cases h : b = 10
    · rw [if_pos h]
      subst h
      show [10] ++ textOf (linesOf l).1 ++ (linesOf l).2 = _
      rw [List.append_assoc, ih]
      rfl
    · rw [if_neg h]
      cases hl : linesOf l with
      | mk xs r =>
        rw [hl] at ih
        cases xs with
        | nil =>
          simp only at ih ⊢
          rw [← ih]
          rfl
        | cons x xs =>
          simp only at ih ⊢
          rw [← ih]
          rfl
theorem linesOf_right (l : List UInt8) : (∀ x ∈ (linesOf l).1, (10 : UInt8) ∉ x) ∧ (10 : UInt8) ∉ (linesOf l).2 := by
  induction l with
  | nil => exact ⟨by simp [linesOf], by simp [linesOf]⟩
  | cons b l ih =>
    unfold linesOf
    by_cases h : b = 10
    · rw [if_pos h]
      refine ⟨?_, ih.2⟩
      intro x hx
      rcases List.mem_cons.1 hx with rfl | hx
      · simp
      · exact ih.1 x hx
    · rw [if_neg h]
      cases hl : linesOf l with
      | mk xs r =>
        rw [hl] at ih
        cases xs with
        | nil => exact ⟨by simp, by simpa using ⟨fun e => h e.symm, ih.2⟩⟩
        | cons x xs =>
          refine ⟨?_, ih.2⟩
          intro y hy
          rcases List.mem_cons.1 hy with rfl | hy
          · simpa using ⟨fun e => h e.symm, ih.1 x (by simp)⟩
          · exact ih.1 y (List.mem_cons_of_mem _ hy)
theorem linesOf_line (x r : List UInt8) (h : (10 : UInt8) ∉ x) : linesOf (x ++ 10 :: r) = (x :: (linesOf r).1, (linesOf r).2) := by
  induction x with
  | nil =>
    show linesOf (10 :: r) = _
    rw [linesOf, if_pos rfl]
  | cons b x ih =>
    have hb : b ≠ 10 := fun e => h (by simp [e])
    show linesOf (b :: (x ++ 10 :: r)) = _
    rw [linesOf, if_neg hb, ih (fun hx => h (List.mem_cons_of_mem _ hx))]
theorem linesOf_textOf (ls : List (List UInt8)) (h : ∀ x ∈ ls, (10 : UInt8) ∉ x) (r : List UInt8) : linesOf (textOf ls ++ r) = (ls ++ (linesOf r).1, (linesOf r).2) := by
  induction ls with
  | nil => rfl
  | cons x ls ih =>
    have e : textOf (x :: ls) ++ r = x ++ 10 :: (textOf ls ++ r) := by simp [textOf]
    rw [e, linesOf_line x _ (h x (by simp)), ih (fun y hy => h y (List.mem_cons_of_mem _ hy))]
    rfl
theorem linesOf_count (l : List UInt8) : (linesOf l).1.length = l.count 10 := by
  induction l with
  | nil => rfl
  | cons b l ih =>
    unfold linesOf
    by_cases h : b = 10
    · rw [if_pos h, h, List.count_cons_self, ← ih]
      rfl
    · rw [if_neg h, List.count_cons_of_ne h, ← ih]
      cases linesOf l with
      | mk xs r => cases xs <;> rfl
end Go.Proofs.YtijfedahhgcfpaaDoor.Ln
/- Walks of chapter 05: a byte of a token. -/
set_option linter.unusedVariables false
set_option linter.unusedSimpArgs false
namespace Go.Proofs.YtijfedahhgcfpaaDoor.Ln
open Go.RowKit

set_option maxRecDepth 1000000 in
theorem or_all : ∀ n : Fin 256, ((97 ≤ bits .or .u8 ((n.val : Nat) : Int) 32 ∧ bits .or .u8 ((n.val : Nat) : Int) 32 ≤ 122) ↔ ((97 ≤ n.val ∧ n.val ≤ 122) ∨ (65 ≤ n.val ∧ n.val ≤ 90))) := by decide
theorem or_low (b : UInt8) : (97 ≤ bits .or .u8 (b.toNat : Int) 32 ∧ bits .or .u8 (b.toNat : Int) 32 ≤ 122) ↔ ((97 ≤ b.toNat ∧ b.toNat ≤ 122) ∨ (65 ≤ b.toNat ∧ b.toNat ≤ 90)) := or_all ⟨b.toNat, b.toNat_lt⟩
set_option maxRecDepth 100000 in
theorem in_any (b : UInt8) (w : World) :
    Calls Tryd.prog 45 #[.int .u8 (b.toNat : Int)] w fun e w' => e = .returned (.bool (inB b)) ∧ w' = w := by
  obtain ⟨r, hr⟩ : ∃ r, r = inB b := ⟨_, rfl⟩
  rw [← hr]
  have HR := Lib.hid hr
  clear hr
  go_enter Tryd.func45, Tryd.ntmps45
  go_wp2_with fail
  all_goals go_ret
  all_goals
    refine ⟨?_, rfl⟩
    rw [HR.out]
    have hl := or_low b
    unfold inB inN
    show Ending.returned (Value.bool _) = _
    congr 2
    rw [Bool.eq_iff_iff]
    generalize bits .or .u8 (b.toNat : Int) 32 = y at *
    simp
    try omega
end Go.Proofs.YtijfedahhgcfpaaDoor.Ln
/- Walks of chapter 05: is a text a token? -/
set_option linter.unusedVariables false
set_option linter.unusedSimpArgs false
namespace Go.Proofs.YtijfedahhgcfpaaDoor.Ln
open Go.RowKit

theorem token_yes (s : ByteArray) (h0 : 0 < s.size) (h : ∀ j (hj : j < s.size), inB (s[j]'hj) = true) : tokenB s.data.toList = true := by
  obtain ⟨⟨l⟩⟩ := s
  have h0' : 0 < l.length := h0
  refine (tokenB_iff l).2 ⟨fun e => by rw [e] at h0'; exact absurd h0' (Nat.lt_irrefl 0), ?_⟩
  intro b hb
  obtain ⟨j, hj, rfl⟩ := List.getElem_of_mem hb
  exact h j hj
theorem token_no (s : ByteArray) (j : Nat) (hj : j < s.size) (h : inB (s[j]'hj) = false) : tokenB s.data.toList = false := by
  obtain ⟨⟨l⟩⟩ := s
  rw [Bool.eq_false_iff]
  intro ht
  have := ((tokenB_iff l).1 ht).2 _ (List.getElem_mem (show j < l.length from hj))
  have h' : inB (l[j]'hj) = false := h
  rw [h'] at this
  cases this
theorem token_nil (s : ByteArray) (h : s.size = 0) : tokenB s.data.toList = false := by
  have : s.data.toList = [] := List.eq_nil_of_length_eq_zero h
  rw [this]
  rfl
set_option maxRecDepth 100000 in
theorem token_any (s : ByteArray) (w : World) (hs : s.size ≤ 140737488351232) :
    Calls Tryd.prog 30 #[.string s] w fun e w' => e = .returned (.bool (tokenB s.data.toList)) ∧ w' = w := by
  obtain ⟨r, hr⟩ : ∃ r, r = tokenB s.data.toList := ⟨_, rfl⟩
  rw [← hr]
  have HR := Lib.hid hr
  clear hr
  obtain ⟨n, hn⟩ : ∃ n, n = s.size := ⟨_, rfl⟩
  have HN := Lib.hid hn.symm
  go_enter Tryd.func30, Tryd.ntmps30
  go_wp2_with fail
  go_loopw [6] (fun vi wr => ∃ i : Nat, i ≤ n ∧ vi = .int .i64 (i : Int) ∧ (∀ j (hj : j < s.size), j < i → inB (s[j]'hj) = true) ∧ wr = w) (fun vi _ => n - (intOf vi).toNat)
  case atStart => exact ⟨0, Nat.zero_le _, rfl, fun j hj h => absurd h (Nat.not_lt_zero _), rfl⟩
  case round =>
    obtain ⟨i, hi, rfl, hj, hw⟩ := hrel
    have hw2 := hw.symm
    clear hw
    subst hw2
    have HJ := Lib.hid hj
    clear hj
    by_cases hin : i < s.size
    · have hin1 : (i : Int) < (s.size : Int) := by omega
      have hi0 : (0 : Int) ≤ (i : Int) := by omega
      go_wp2_with fail
      refine (in_any (s[i]'hin) w).mono ?_
      obtain ⟨q, hq⟩ : ∃ q, q = inB (s[i]'hin) := ⟨_, rfl⟩
      rw [← hq]
      have HQ := Lib.hid hq
      clear hq
      rintro e w' ⟨rfl, hw⟩
      have hw2 := hw.symm
      clear hw
      subst hw2
      cases q with
      | true =>
        go_wp2_with fail
        refine ⟨⟨i + 1, by omega, by go_num, fun j hj h => ?_, trivial⟩, by first | (simp [intOf]; done) | (simp [intOf]; omega)⟩
        by_cases hji : j = i
        · subst hji
          exact HQ.out.symm
        · exact HJ.out j hj (by omega)
      | false =>
        go_wp2_with fail
        go_ret
        exact ⟨by rw [HR.out, token_no s i hin HQ.out.symm]; rfl, rfl⟩
    · have hin1 : ¬ (i : Int) < (s.size : Int) := by omega
      have hie : i = n := by omega
      have HIE := Lib.hid hie
      clear hie
      by_cases h0 : s.size = 0
      · have hem : s.toList.isEmpty = true := by
          rw [ByteArray.toList_eq, List.eq_nil_of_length_eq_zero (show s.data.toList.length = 0 from h0)]
          rfl
        have HV := Lib.hid (HR.out.trans (token_nil s h0))
        clear h0
        go_wp2_with fail
        go_ret
        exact ⟨by rw [HV.out]; simp [hem], rfl⟩
      · have hem : s.toList.isEmpty = false := by
          rw [ByteArray.toList_eq]
          cases he : s.data.toList with
          | nil => exact absurd (congrArg List.length he) h0
          | cons b l => rfl
        have HV := Lib.hid (HR.out.trans (token_yes s (by omega) (fun j hj => HJ.out j hj (by have := HIE.out; omega))))
        clear h0
        go_wp2_with fail
        go_ret
        exact ⟨by rw [HV.out]; simp [hem], rfl⟩
end Go.Proofs.YtijfedahhgcfpaaDoor.Ln
/- Walks of chapter 05: the program's Right and Join. -/
set_option linter.unusedVariables false
set_option linter.unusedSimpArgs false
namespace Go.Proofs.YtijfedahhgcfpaaDoor.Ln
open Go Go.RowKit Go.Proofs.YtijfedahhgcfpaaDoorW.PrintWords Go.Proofs.YtijfedahhgcfpaaDoorW.PrintLast

abbrev bl (s : ByteArray) : List UInt8 := s.data.toList
abbrev ba (l : List UInt8) : ByteArray := ⟨l.toArray⟩
theorem bl_ba (l : List UInt8) : bl (ba l) = l := by simp
theorem ba_bl (s : ByteArray) : ba (bl s) = s := by
  obtain ⟨⟨l⟩⟩ := s
  rfl
theorem bl_size (s : ByteArray) : (bl s).length = s.size := by
  obtain ⟨⟨l⟩⟩ := s
  rfl
/-- Has a text no byte 10? -/
def plainB (s : ByteArray) : Bool := !(bl s).contains 10
def rightB (xs : List ByteArray) : Bool := xs.all plainB
theorem indexByte_10 (l : List UInt8) : decide (0 ≤ Lib.indexByte l 10) = l.contains 10 := by
  rw [Bool.eq_iff_iff, decide_eq_true_iff, List.contains_iff_mem]
  constructor
  · intro h
    obtain ⟨o, ho⟩ := Int.eq_ofNat_of_zero_le h
    exact List.mem_of_getElem? (Lib.indexByte_some ho).1
  · intro h
    have h1 := Lib.indexByte_ge l 10
    rcases Int.lt_or_le (Lib.indexByte l 10) 0 with h2 | h2
    · obtain ⟨k, hk⟩ := List.getElem?_of_mem h
      exact absurd hk (Lib.indexByte_none (by omega) k)
    · exact h2
theorem rdOf_nat {α : Type} (d : α) (xs : List α) (i : Nat) (h : i < xs.length) : rdOf d xs (i : Int) = xs[i] := by
  unfold rdOf
  rw [Int.toNat_natCast, List.getD_eq_getElem?_getD, List.getElem?_eq_getElem h]
  rfl
theorem right1 (s : ByteArray) (w : World) :
    Calls Tryd.prog 48 #[.string s] w fun e w' => e = .returned (.bool (!plainB s)) ∧ w' = w := by
  go_enter Tryd.func48, Tryd.ntmps48
  go_wp2_with fail
  refine (Tryd.strings_Contains_one s 10 w).mono ?_
  rintro e w' ⟨rfl, rfl⟩
  rw [show decide (0 ≤ Lib.indexByte s.data.toList 10) = !plainB s from by rw [indexByte_10]; simp [plainB]]
  go_wp2_with fail
  go_ret
  exact ⟨rfl, rfl⟩
def AnyBool (xs : List ByteArray) (i : Int) : Prop := (0 ≤ i) = (rightB xs = false)
set_option maxRecDepth 100000 in
theorem indexFunc10 (A : Option Addr) (n c : Nat) (xs : List ByteArray) (hxn : xs.length = n) (w : World) (hA : Kd.string.C w A n xs) (hn : n ≤ 1000000000) :
    Calls Tryd.prog 58 #[.slice A n c, .func (.func 48) #[] #[]] w fun e w' => ∃ i : Int, e = .returned (.int .i64 i) ∧ AnyBool xs i ∧ w' = w := by
  have HA := Lib.hid hA
  have HXN := Lib.hid hxn
  clear hA hxn
  go_enter Tryd.func58, Tryd.ntmps58
  go_wp2_with fail
  go_loopw [8] (fun vi wr => ∃ i : Nat, i ≤ n ∧ vi = .int .i64 (i : Int) ∧ (∀ j (hj : j < xs.length), j < i → plainB (xs[j]'hj) = true) ∧ wr = w) (fun vi _ => n - (intOf vi).toNat)
  case atStart => exact ⟨0, Nat.zero_le _, rfl, fun j hj h => absurd h (Nat.not_lt_zero _), rfl⟩
  case round =>
    obtain ⟨i, hi, rfl, hj, hw⟩ := hrel
    have hw2 := hw.symm
    clear hw
    subst hw2
    have HJ := Lib.hid hj
    clear hj
    by_cases hin : i < n
    · have hin1 : (i : Int) < (n : Int) := by omega
      have hi0 : (0 : Int) ≤ (i : Int) := by omega
      obtain ⟨ad, rfl, ca1⟩ := Kd.at_string HA.out (i : Int) hi0 hin1
      rw [rdOf_nat _ _ _ (by rw [HXN.out]; exact hin), Int.toNat_natCast] at ca1
      go_wp2_with fail
      refine (right1 (xs[i]'(by rw [HXN.out]; exact hin)) w).mono ?_
      obtain ⟨q, hq⟩ : ∃ q, q = plainB (xs[i]'(by rw [HXN.out]; exact hin)) := ⟨_, rfl⟩
      rw [← hq]
      have HQ := Lib.hid hq
      clear hq
      rintro e w' ⟨rfl, hw⟩
      have hw2 := hw.symm
      clear hw
      subst hw2
      cases q with
      | true =>
        go_wp2_with fail
        refine ⟨⟨i + 1, by omega, by go_num, fun j hj h => ?_, trivial⟩, by first | (simp [intOf]; done) | (simp [intOf]; omega)⟩
        by_cases hji : j = i
        · subst hji
          exact HQ.out.symm
        · exact HJ.out j hj (by omega)
      | false =>
        go_wp2_with fail
        go_ret
        refine ⟨_, rfl, ?_, rfl⟩
        unfold AnyBool
        rw [eq_iff_iff]
        refine ⟨fun _ => ?_, fun _ => hi0⟩
        unfold rightB
        rw [List.all_eq_false]
        exact ⟨_, List.getElem_mem _, by rw [← HQ.out]; simp⟩
    · have hin1 : ¬ (i : Int) < (n : Int) := by omega
      have HIN := Lib.hid (show i = n by omega)
      go_wp2_with fail
      go_ret
      refine ⟨_, rfl, ?_, rfl⟩
      unfold AnyBool
      rw [eq_iff_iff]
      refine ⟨fun h => by omega, fun h => ?_⟩
      unfold rightB at h
      rw [List.all_eq_false] at h
      obtain ⟨x, hx, hb⟩ := h
      obtain ⟨j, hj, rfl⟩ := List.getElem_of_mem hx
      exact absurd (HJ.out j hj (by have := HIN.out; have := HXN.out; omega)) hb
set_option maxRecDepth 100000 in
theorem right_any (A : Option Addr) (n c : Nat) (xs : List ByteArray) (hxn : xs.length = n) (w : World) (hA : Kd.string.C w A n xs) (hn : n ≤ 1000000000) :
    Calls Tryd.prog 32 #[.slice A n c] w fun e w' => e = .returned (.bool (rightB xs)) ∧ w' = w := by
  have HC := Lib.hid (indexFunc10 A n c xs hxn w hA hn)
  clear hA hxn
  have HCF : Calls Tryd.prog 47 #[.slice A n c, .func (.func 48) #[] #[]] w fun e w' => e = .returned (.bool (!rightB xs)) ∧ w' = w := by
    go_enter Tryd.func47, Tryd.ntmps47
    go_wp2_with fail
    refine HC.out.mono ?_
    rintro e w' ⟨i, rfl, hi, hw⟩
    have hw2 := hw.symm
    clear hw
    subst hw2
    have HI := Lib.hid hi
    clear hi
    go_wp2_with fail
    go_ret
    refine ⟨show Ending.returned (Value.bool (decide (i ≥ 0))) = _ from ?_, rfl⟩
    have h := HI.out
    unfold AnyBool at h
    rw [show decide (i ≥ 0) = !rightB xs from by
      rw [Bool.eq_iff_iff, decide_eq_true_iff]
      show (0 ≤ i) ↔ _
      rw [h]
      simp]
  have HF := Lib.hid HCF
  clear HCF
  go_enter Tryd.func32, Tryd.ntmps32
  go_wp2_with fail
  refine HF.out.mono ?_
  rintro e w' ⟨rfl, hw⟩
  have hw2 := hw.symm
  clear hw
  subst hw2
  obtain ⟨q, hq⟩ : ∃ q, q = rightB xs := ⟨_, rfl⟩
  rw [← hq]
  have HQ := Lib.hid hq
  clear hq
  go_wp2_with fail
  go_ret
  exact ⟨by rw [← HQ.out]; simp, rfl⟩
end Go.Proofs.YtijfedahhgcfpaaDoor.Ln
