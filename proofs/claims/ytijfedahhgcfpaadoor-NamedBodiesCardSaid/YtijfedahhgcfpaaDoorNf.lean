/- Numbers in bytes: put and read. Plain. -/
import Derived.Lib.ItoaNum
import Derived.Lib.IndexMore
import Derived.Lib.IndexLaws
import Derived.Test.YtijfedahhgcfpaaDoorPNamedBackx0
import Derived.Test.YtijfedahhgcfpaaDoorNa
import Derived.Test.YtijfedahhgcfpaaDoorNd
import Derived.Test.YtijfedahhgcfpaaDoorNe
set_option linter.unusedVariables false
set_option linter.unusedSimpArgs false
namespace Go.Proofs.YtijfedahhgcfpaaDoor
open Go

def isDig (c : UInt8) : Bool := decide (48 ≤ c.toNat ∧ c.toNat ≤ 57)
def valF (a : Nat) : List UInt8 → Nat
  | [] => a
  | c :: t => valF (10 * a + (c.toNat - 48)) t
def valD (l : List UInt8) : Nat := valF 0 l
theorem digit_byte (d : Nat) (h : d < 10) : (UInt8.ofNat (48 + d)).toNat = 48 + d := by
  rw [UInt8.toNat_ofNat_of_lt']
  show 48 + d < 256
  omega
theorem decDigits_small {u : Nat} (h : u < 10) : Lib.decDigits u = [UInt8.ofNat (48 + u)] := by rw [Lib.decDigits, dif_pos h]
theorem decDigits_big {u : Nat} (h : ¬ u < 10) : Lib.decDigits u = Lib.decDigits (u / 10) ++ [UInt8.ofNat (48 + u % 10)] := by rw [Lib.decDigits, dif_neg h]
theorem decDigits_all (u : Nat) : ∀ c ∈ Lib.decDigits u, 48 ≤ c.toNat ∧ c.toNat ≤ 57 := by
  induction u using Nat.strongRecOn with
  | ind u ih =>
    by_cases h : u < 10
    · rw [decDigits_small h]
      intro c hc
      rw [List.mem_singleton] at hc
      subst hc
      rw [digit_byte u h]
      omega
    · rw [decDigits_big h]
      intro c hc
      rw [List.mem_append, List.mem_singleton] at hc
      rcases hc with hc | rfl
      · exact ih (u / 10) (by omega) c hc
      · rw [digit_byte (u % 10) (by omega)]
        omega
theorem decDigits_pos (u : Nat) : Lib.decDigits u ≠ [] := by
  by_cases h : u < 10
  · rw [decDigits_small h]; simp
  · rw [decDigits_big h]; simp
theorem decDigits_len : ∀ (k u : Nat), 0 < k → u < 10 ^ k → (Lib.decDigits u).length ≤ k
  | 0, _, h, _ => absurd h (by omega)
  | k + 1, u, _, hu => by
    by_cases h : u < 10
    · rw [decDigits_small h]
      simp
    · rw [decDigits_big h, List.length_append, List.length_singleton]
      have h0 : 0 < k := by
        rcases Nat.eq_zero_or_pos k with rfl | h0
        · simp at hu; omega
        · exact h0
      have := decDigits_len k (u / 10) h0 (by rw [Nat.pow_succ] at hu; omega)
      omega
theorem valF_append (l m : List UInt8) : ∀ a, valF a (l ++ m) = valF (valF a l) m := by
  induction l with
  | nil => exact fun a => rfl
  | cons c l ih => exact fun a => ih (10 * a + (c.toNat - 48))
theorem valF_ge (l : List UInt8) : ∀ a, a ≤ valF a l := by
  induction l with
  | nil => exact fun a => Nat.le_refl a
  | cons c l ih => exact fun a => Nat.le_trans (show a ≤ 10 * a + (c.toNat - 48) by omega) (ih (10 * a + (c.toNat - 48)))
theorem valF_lt (l : List UInt8) : (∀ c ∈ l, isDig c = true) → ∀ a, valF a l < (a + 1) * 10 ^ l.length := by
  induction l with
  | nil =>
    intro _ a
    show a < (a + 1) * 10 ^ 0
    rw [Nat.pow_zero]
    omega
  | cons c l ih =>
    intro h a
    have hc := h c (by simp)
    unfold isDig at hc
    rw [decide_eq_true_iff] at hc
    have ih := ih (fun x hx => h x (by simp [hx])) (10 * a + (c.toNat - 48))
    show valF (10 * a + (c.toNat - 48)) l < (a + 1) * 10 ^ (l.length + 1)
    rw [Nat.pow_succ, Nat.mul_comm (10 ^ l.length) 10, ← Nat.mul_assoc]
    refine Nat.lt_of_lt_of_le ih ?_
    exact Nat.mul_le_mul_right _ (by omega)
theorem dec_val : ∀ (n : Nat) (D : List UInt8), D.length = n → (∀ c ∈ D, isDig c = true) → D ≠ [] → (D.length ≤ 1 ∨ D.head? ≠ some 48) → Lib.decDigits (valD D) = D
  | 0, D, hn, _, h0, _ => absurd (List.eq_nil_of_length_eq_zero hn) h0
  | n + 1, D, hn, hd, h0, hz => by
    obtain ⟨E, c, rfl⟩ : ∃ E c, D = E ++ [c] := ⟨D.dropLast, D.getLast h0, (List.dropLast_concat_getLast h0).symm⟩
    have hc := hd c (by simp)
    unfold isDig at hc
    rw [decide_eq_true_iff] at hc
    have hcc : UInt8.ofNat (48 + (c.toNat - 48)) = c := by
      rw [show 48 + (c.toNat - 48) = c.toNat by omega]
      exact UInt8.ofNat_toNat
    have hv : valD (E ++ [c]) = 10 * valD E + (c.toNat - 48) := by
      unfold valD
      rw [valF_append]
      rfl
    rw [hv]
    by_cases hE : E = []
    · subst hE
      show Lib.decDigits (10 * 0 + (c.toNat - 48)) = [] ++ [c]
      rw [decDigits_small (by omega), List.nil_append, Nat.mul_zero, Nat.zero_add, hcc]
    · have hz' : E.head? ≠ some 48 := by
        rcases hz with hz | hz
        · have : 0 < E.length := List.length_pos_iff.2 hE
          rw [List.length_append, List.length_singleton] at hz
          omega
        · cases E with
          | nil => exact absurd rfl hE
          | cons e E => exact hz
      have hpos : 1 ≤ valD E := by
        cases E with
        | nil => exact absurd rfl hE
        | cons e E =>
          have he := hd e (by simp)
          unfold isDig at he
          rw [decide_eq_true_iff] at he
          have hne : e ≠ 48 := fun h => hz' (by rw [h]; rfl)
          have hne' : e.toNat ≠ 48 := fun h => hne (UInt8.toNat_inj.1 h)
          have := valF_ge E (10 * 0 + (e.toNat - 48))
          show 1 ≤ valF (10 * 0 + (e.toNat - 48)) E
          omega
      have ih := dec_val n E (by simp at hn; exact hn) (fun x hx => hd x (by simp [hx])) hE (.inr hz')
      rw [decDigits_big (by omega), show (10 * valD E + (c.toNat - 48)) / 10 = valD E by omega, show (10 * valD E + (c.toNat - 48)) % 10 = c.toNat - 48 by omega, ih, hcc]
theorem val_dec (u : Nat) : valD (Lib.decDigits u) = u := by
  induction u using Nat.strongRecOn with
  | ind u ih =>
    by_cases h : u < 10
    · rw [decDigits_small h]
      show 10 * 0 + ((UInt8.ofNat (48 + u)).toNat - 48) = u
      rw [digit_byte u h]
      omega
    · rw [decDigits_big h]
      unfold valD
      rw [valF_append]
      show 10 * valD (Lib.decDigits (u / 10)) + ((UInt8.ofNat (48 + u % 10)).toNat - 48) = u
      rw [ih (u / 10) (by omega), digit_byte (u % 10) (by omega)]
      omega

/-! ## a number, and a 58 behind -/
def numE (n : Nat) : List UInt8 := Lib.decDigits n ++ [58]
def digOk (d : List UInt8) : Bool := !d.isEmpty && decide (d.length ≤ 11) && !(decide (1 < d.length) && decide (d.head? = some 48)) && d.all isDig
def numP (b : List UInt8) : Option (Nat × List UInt8) := if (Lib.cut b [58]).2.2 = true ∧ digOk (Lib.cut b [58]).1 = true then some (valD (Lib.cut b [58]).1, (Lib.cut b [58]).2.1) else none
theorem indexByte_hit (r : List UInt8) : ∀ d : List UInt8, (58 : UInt8) ∉ d → Lib.indexByte (d ++ 58 :: r) 58 = (d.length : Int)
  | [], _ => by simp [Lib.indexByte]
  | c :: d, h => by
    have hc : (c == 58) = false := by
      rw [beq_eq_false_iff_ne]
      exact fun e => h (by simp [e])
    have ih := indexByte_hit r d (fun h' => h (by simp [h']))
    rw [List.cons_append, Lib.indexByte, hc, ih]
    have : ((d.length : Int) == -1) = false := by rw [beq_eq_false_iff_ne]; omega
    simp [this]
theorem cut_hit (d r : List UInt8) (h : (58 : UInt8) ∉ d) : Lib.cut (d ++ 58 :: r) [58] = (d, r, true) := by
  unfold Lib.cut
  rw [Lib.index_one, indexByte_hit r d h, if_pos (by omega)]
  simp
theorem cut_inv {b : List UInt8} (h : (Lib.cut b [58]).2.2 = true) : b = (Lib.cut b [58]).1 ++ 58 :: (Lib.cut b [58]).2.1 := by
  unfold Lib.cut at h ⊢
  rw [Lib.index_one] at h ⊢
  split at h
  · rename_i h0
    obtain ⟨o, ho⟩ := Int.eq_ofNat_of_zero_le h0
    rw [if_pos h0]
    have h1 := (Lib.indexByte_some ho).1
    rw [ho]
    obtain ⟨hl, h2⟩ := List.getElem?_eq_some_iff.1 h1
    show b = b.take o ++ 58 :: b.drop (o + 1)
    have h3 : b.drop o = 58 :: b.drop (o + 1) := by rw [List.drop_eq_getElem_cons hl, h2]
    rw [← h3, List.take_append_drop]
  · cases h
theorem dec_ok (n : Nat) (h : n < 100000000000) : digOk (Lib.decDigits n) = true := by
  unfold digOk
  have h1 := decDigits_pos n
  have h2 := decDigits_len 11 n (by omega) h
  have h3 := decDigits_all n
  have hz : ¬ (1 < (Lib.decDigits n).length ∧ (Lib.decDigits n).head? = some 48) := by
    rintro ⟨ha, hb⟩
    have key : ∀ k m : Nat, m < k → 1 < (Lib.decDigits m).length → (Lib.decDigits m).head? ≠ some 48 := by
      intro k
      induction k with
      | zero => intro m hm; omega
      | succ k ih =>
        intro m hm hl
        by_cases hm10 : m < 10
        · rw [decDigits_small hm10] at hl
          simp at hl
        · rw [decDigits_big hm10]
          by_cases h10 : m / 10 < 10
          · rw [decDigits_small h10]
            have hd := digit_byte (m / 10) h10
            intro e
            have e2 : UInt8.ofNat (48 + m / 10) = 48 := by simpa using e
            rw [e2] at hd
            have : (48 : UInt8).toNat = 48 := rfl
            omega
          · have hl2 : 1 < (Lib.decDigits (m / 10)).length := by
              rw [decDigits_big h10, List.length_append, List.length_singleton]
              have := List.length_pos_iff.2 (decDigits_pos (m / 10 / 10))
              omega
            have := ih (m / 10) (by omega) hl2
            have hne := decDigits_pos (m / 10)
            cases he : Lib.decDigits (m / 10) with
            | nil => exact absurd he hne
            | cons c t =>
              rw [he] at this
              exact this
    exact key (n + 1) n (by omega) ha hb
  rw [Bool.and_eq_true, Bool.and_eq_true, Bool.and_eq_true]
  refine ⟨⟨⟨?_, decide_eq_true h2⟩, ?_⟩, ?_⟩
  · cases he : Lib.decDigits n with
    | nil => exact absurd he h1
    | cons c t => rfl
  · rw [Bool.not_eq_true', Bool.and_eq_false_iff]
    by_cases ha : 1 < (Lib.decDigits n).length
    · exact .inr (decide_eq_false (fun hb => hz ⟨ha, hb⟩))
    · exact .inl (decide_eq_false ha)
  · refine List.all_eq_true.2 (fun c hc => ?_)
    unfold isDig
    exact decide_eq_true (h3 c hc)
theorem no_58 {d : List UInt8} (h : d.all isDig = true) : (58 : UInt8) ∉ d := fun hm => by
  have := List.all_eq_true.1 h _ hm
  exact absurd this (by decide)
theorem numP_numE (n : Nat) (h : n < 100000000000) (r : List UInt8) : numP (numE n ++ r) = some (n, r) := by
  have hok := dec_ok n h
  have hd : (Lib.decDigits n).all isDig = true := by
    unfold digOk at hok
    rw [Bool.and_eq_true] at hok
    exact hok.2
  unfold numP numE
  rw [List.append_assoc, List.singleton_append, cut_hit _ _ (no_58 hd)]
  rw [if_pos ⟨rfl, hok⟩]
  show some (valD (Lib.decDigits n), r) = _
  rw [val_dec]
theorem val_lt (d : List UInt8) (h : d.all isDig = true) (hl : d.length ≤ 11) : valD d < 100000000000 := by
  have h1 := valF_lt d (List.all_eq_true.1 h) 0
  have h2 : 10 ^ d.length ≤ 10 ^ 11 := Nat.pow_le_pow_right (by omega) hl
  have h3 : (10 : Nat) ^ 11 = 100000000000 := by decide
  unfold valD
  omega
theorem numP_back {b r : List UInt8} {n : Nat} (h : numP b = some (n, r)) : n < 100000000000 ∧ b = numE n ++ r := by
  unfold numP at h
  split at h
  · rename_i h0
    obtain ⟨h1, h2⟩ := h0
    have hb := cut_inv h1
    obtain ⟨e1, e2⟩ := Prod.mk.inj (Option.some.inj h)
    unfold digOk at h2
    rw [Bool.and_eq_true, Bool.and_eq_true, Bool.and_eq_true] at h2
    obtain ⟨⟨⟨d1, d2⟩, d3⟩, d4⟩ := h2
    have hne : (Lib.cut b [58]).1 ≠ [] := fun e => by rw [e] at d1; cases d1
    have hz : (Lib.cut b [58]).1.length ≤ 1 ∨ (Lib.cut b [58]).1.head? ≠ some 48 := by
      rw [Bool.not_eq_true', Bool.and_eq_false_iff] at d3
      rcases d3 with h | h
      · exact .inl (by have := of_decide_eq_false h; omega)
      · exact .inr (of_decide_eq_false h)
    have hv := dec_val _ _ rfl (List.all_eq_true.1 d4) hne hz
    refine ⟨by rw [← e1]; exact val_lt _ d4 (of_decide_eq_true d2), ?_⟩
    unfold numE
    rw [← e1, hv, List.append_assoc, List.singleton_append, ← e2]
    exact hb
  · cases h
end Go.Proofs.YtijfedahhgcfpaaDoor
/- Named patches, plain: bytes put and read; what may be one. -/
set_option linter.unusedVariables false
set_option linter.unusedSimpArgs false
namespace Go.Proofs.YtijfedahhgcfpaaDoor
open Go.RowKit Go.Proofs.YtijfedahhgcfpaaDoorW.PrintWords Go.Proofs.YtijfedahhgcfpaaDoorW.PrintLast

abbrev Prm : Type := PNamedBack.S39
structure Pat where
  name : ByteArray
  deps : List ByteArray
  body : List Prm

/-! ## bytes put, bytes read -/
structure Codec {α : Type} (E : α → List UInt8) (P : List UInt8 → Option (α × List UInt8)) (ok : α → Prop) : Prop where
  enc : ∀ x r, ok x → P (E x ++ r) = some (x, r)
  dec : ∀ b x r, P b = some (x, r) → ok x ∧ b = E x ++ r
def numI (n : Int) : List UInt8 := Lib.itoa n ++ [58]
def numIP (b : List UInt8) : Option (Int × List UInt8) := (numP b).map fun p => ((p.1 : Int), p.2)
def numOk (n : Int) : Prop := 0 ≤ n ∧ n < 100000000000
theorem numI_nat (n : Nat) : numI (n : Int) = numE n := by
  unfold numI numE
  rw [Lib.itoa_nonneg]
theorem codec_num : Codec numI numIP numOk := ⟨fun n r h => by
    obtain ⟨m, rfl⟩ := Int.eq_ofNat_of_zero_le h.1
    unfold numIP
    rw [numI_nat, numP_numE m (by have := h.2; omega)]
    rfl, fun b n r h => by
    unfold numIP at h
    obtain ⟨⟨m, r'⟩, h1, h2⟩ := Option.map_eq_some_iff.1 h
    obtain ⟨rfl, rfl⟩ := Prod.mk.inj h2
    obtain ⟨h3, h4⟩ := numP_back h1
    exact ⟨⟨by show (0 : Int) ≤ (m : Int); omega, by show (m : Int) < _; omega⟩, by rw [numI_nat]; exact h4⟩⟩
def textE (s : ByteArray) : List UInt8 := numI (s.size : Int) ++ s.data.toList
def textP (b : List UInt8) : Option (ByteArray × List UInt8) := (numP b).bind fun p => if p.1 ≤ p.2.length then some (⟨(p.2.take p.1).toArray⟩, p.2.drop p.1) else none
def textOk (s : ByteArray) : Prop := s.size < 100000000000
theorem codec_text : Codec textE textP textOk := ⟨fun s r h => by
    unfold textP textE
    rw [numI_nat, List.append_assoc, numP_numE s.size h]
    have hl : s.data.toList.length = s.size := by simp
    show (if s.size ≤ (s.data.toList ++ r).length then some ((⟨((s.data.toList ++ r).take s.size).toArray⟩ : ByteArray), (s.data.toList ++ r).drop s.size) else none) = _
    rw [if_pos (by rw [List.length_append]; omega), ← hl, List.take_left, List.drop_left], fun b s r h => by
    unfold textP at h
    obtain ⟨⟨n, t⟩, h1, h2⟩ := Option.bind_eq_some_iff.1 h
    obtain ⟨h3, h4⟩ := numP_back h1
    split at h2
    · rename_i hn
      obtain ⟨rfl, rfl⟩ := Prod.mk.inj (Option.some.inj h2)
      have hs : (⟨(t.take n).toArray⟩ : ByteArray).size = n := by
        show (t.take n).toArray.size = n
        rw [List.size_toArray, List.length_take]
        have hn' : n ≤ t.length := hn
        omega
      refine ⟨by unfold textOk; rw [hs]; exact h3, ?_⟩
      unfold textE
      rw [hs, numI_nat, List.append_assoc, h4]
      show numE n ++ t = numE n ++ (t.take n ++ t.drop n)
      rw [List.take_append_drop]
    · cases h2⟩
def manyP {α : Type} (P : List UInt8 → Option (α × List UInt8)) : Nat → List UInt8 → Option (List α × List UInt8)
  | 0, b => some ([], b)
  | n + 1, b => (P b).bind fun p => (manyP P n p.2).bind fun q => some (p.1 :: q.1, q.2)
def listP {α : Type} (P : List UInt8 → Option (α × List UInt8)) (b : List UInt8) : Option (List α × List UInt8) := (numP b).bind fun p => manyP P p.1 p.2
def listE {α : Type} (E : α → List UInt8) (l : List α) : List UInt8 := numI (l.length : Int) ++ (l.map E).flatten
def listOk {α : Type} (ok : α → Prop) (l : List α) : Prop := l.length < 100000000000 ∧ ∀ x ∈ l, ok x
section
variable {α : Type} {E : α → List UInt8} {P : List UInt8 → Option (α × List UInt8)} {ok : α → Prop}
theorem many_enc (h : Codec E P ok) : ∀ (l : List α) (r : List UInt8), (∀ x ∈ l, ok x) → manyP P l.length ((l.map E).flatten ++ r) = some (l, r)
  | [], r, _ => rfl
  | x :: l, r, hl => by
    simp only [List.length_cons, manyP, List.map_cons, List.flatten_cons, List.append_assoc]
    rw [h.enc x _ (hl x (by simp))]
    simp only [Option.bind_some]
    rw [many_enc h l r (fun y hy => hl y (by simp [hy]))]
    rfl
theorem many_dec (h : Codec E P ok) : ∀ (n : Nat) (b : List UInt8) (l : List α) (r : List UInt8), manyP P n b = some (l, r) → l.length = n ∧ (∀ x ∈ l, ok x) ∧ b = (l.map E).flatten ++ r
  | 0, b, l, r, hb => by
    obtain ⟨rfl, rfl⟩ := Prod.mk.inj (Option.some.inj hb)
    exact ⟨rfl, fun x hx => (by cases hx), rfl⟩
  | n + 1, b, l, r, hb => by
    rw [manyP] at hb
    obtain ⟨⟨x, b1⟩, h1, h2⟩ := Option.bind_eq_some_iff.1 hb
    obtain ⟨⟨l2, r2⟩, h3, h4⟩ := Option.bind_eq_some_iff.1 h2
    obtain ⟨rfl, rfl⟩ := Prod.mk.inj (Option.some.inj h4)
    obtain ⟨k1, k2⟩ := h.dec _ _ _ h1
    obtain ⟨k3, k4, k5⟩ := many_dec h n _ _ _ h3
    refine ⟨by rw [List.length_cons]; exact congrArg (· + 1) k3, fun y hy => ?_, ?_⟩
    · rcases List.mem_cons.1 hy with rfl | hy
      · exact k1
      · exact k4 y hy
    · rw [k2, show b1 = (l2.map E).flatten ++ r2 from k5]
      simp
theorem codec_list (h : Codec E P ok) : Codec (listE E) (listP P) (listOk ok) := ⟨fun l r hl => by
    unfold listP listE
    rw [numI_nat, List.append_assoc, numP_numE l.length hl.1]
    exact many_enc h l r hl.2, fun b l r hb => by
    unfold listP at hb
    obtain ⟨⟨n, t⟩, h1, h2⟩ := Option.bind_eq_some_iff.1 hb
    obtain ⟨h3, h4⟩ := numP_back h1
    obtain ⟨k1, k2, k3⟩ := many_dec h _ _ _ _ h2
    have k1' : l.length = n := k1
    refine ⟨⟨by rw [k1']; exact h3, k2⟩, ?_⟩
    unfold listE
    rw [k1', numI_nat, List.append_assoc, ← k3, h4]⟩
end
def primE (x : Prm) : List UInt8 := numI x.f0 ++ (textE x.f1 ++ (textE x.f2 ++ (textE x.f3 ++ (numI x.f4 ++ (listE textE x.f5 ++ listE textE x.f6)))))
def primP (b : List UInt8) : Option (Prm × List UInt8) :=
  (numIP b).bind fun a => (textP a.2).bind fun b1 => (textP b1.2).bind fun b2 => (textP b2.2).bind fun b3 => (numIP b3.2).bind fun b4 => (listP textP b4.2).bind fun b5 => (listP textP b5.2).bind fun b6 => some (⟨a.1, b1.1, b2.1, b3.1, b4.1, b5.1, b6.1⟩, b6.2)
def primOk (x : Prm) : Prop := numOk x.f0 ∧ textOk x.f1 ∧ textOk x.f2 ∧ textOk x.f3 ∧ numOk x.f4 ∧ listOk textOk x.f5 ∧ listOk textOk x.f6
theorem codec_prim : Codec primE primP primOk := ⟨fun x r h => by
    obtain ⟨h0, h1, h2, h3, h4, h5, h6⟩ := h
    unfold primP primE
    simp only [List.append_assoc]
    rw [codec_num.enc _ _ h0]
    simp only [Option.bind_some]
    rw [codec_text.enc _ _ h1]
    simp only [Option.bind_some]
    rw [codec_text.enc _ _ h2]
    simp only [Option.bind_some]
    rw [codec_text.enc _ _ h3]
    simp only [Option.bind_some]
    rw [codec_num.enc _ _ h4]
    simp only [Option.bind_some]
    rw [(codec_list codec_text).enc _ _ h5]
    simp only [Option.bind_some]
    rw [(codec_list codec_text).enc _ _ h6]
    rfl, fun b x r h => by
    unfold primP at h
    obtain ⟨⟨a, b0⟩, h0, h⟩ := Option.bind_eq_some_iff.1 h
    obtain ⟨⟨s1, b1⟩, h1, h⟩ := Option.bind_eq_some_iff.1 h
    obtain ⟨⟨s2, b2⟩, h2, h⟩ := Option.bind_eq_some_iff.1 h
    obtain ⟨⟨s3, b3⟩, h3, h⟩ := Option.bind_eq_some_iff.1 h
    obtain ⟨⟨a4, b4⟩, h4, h⟩ := Option.bind_eq_some_iff.1 h
    obtain ⟨⟨l5, b5⟩, h5, h⟩ := Option.bind_eq_some_iff.1 h
    obtain ⟨⟨l6, b6⟩, h6, h⟩ := Option.bind_eq_some_iff.1 h
    obtain ⟨rfl, rfl⟩ := Prod.mk.inj (Option.some.inj h)
    obtain ⟨k0, e0⟩ := codec_num.dec _ _ _ h0
    obtain ⟨k1, e1⟩ := codec_text.dec _ _ _ h1
    obtain ⟨k2, e2⟩ := codec_text.dec _ _ _ h2
    obtain ⟨k3, e3⟩ := codec_text.dec _ _ _ h3
    obtain ⟨k4, e4⟩ := codec_num.dec _ _ _ h4
    obtain ⟨k5, e5⟩ := (codec_list codec_text).dec _ _ _ h5
    obtain ⟨k6, e6⟩ := (codec_list codec_text).dec _ _ _ h6
    refine ⟨⟨k0, k1, k2, k3, k4, k5, k6⟩, ?_⟩
    unfold primE
    simp only [List.append_assoc]
    simp only at e0 e1 e2 e3 e4 e5 e6
    rw [e0, e1, e2, e3, e4, e5, e6]⟩
def patE (p : Pat) : List UInt8 := textE p.name ++ (listE textE p.deps ++ listE primE p.body)
def patP (b : List UInt8) : Option (Pat × List UInt8) := (textP b).bind fun a => (listP textP a.2).bind fun b1 => (listP primP b1.2).bind fun b2 => some (⟨a.1, b1.1, b2.1⟩, b2.2)
def patOk (p : Pat) : Prop := textOk p.name ∧ listOk textOk p.deps ∧ listOk primOk p.body
theorem codec_pat : Codec patE patP patOk := ⟨fun x r h => by
    obtain ⟨h0, h1, h2⟩ := h
    unfold patP patE
    simp only [List.append_assoc]
    rw [codec_text.enc _ _ h0]
    simp only [Option.bind_some]
    rw [(codec_list codec_text).enc _ _ h1]
    simp only [Option.bind_some]
    rw [(codec_list codec_prim).enc _ _ h2]
    rfl, fun b x r h => by
    unfold patP at h
    obtain ⟨⟨a, b0⟩, h0, h⟩ := Option.bind_eq_some_iff.1 h
    obtain ⟨⟨s1, b1⟩, h1, h⟩ := Option.bind_eq_some_iff.1 h
    obtain ⟨⟨s2, b2⟩, h2, h⟩ := Option.bind_eq_some_iff.1 h
    obtain ⟨rfl, rfl⟩ := Prod.mk.inj (Option.some.inj h)
    obtain ⟨k0, e0⟩ := codec_text.dec _ _ _ h0
    obtain ⟨k1, e1⟩ := (codec_list codec_text).dec _ _ _ h1
    obtain ⟨k2, e2⟩ := (codec_list codec_prim).dec _ _ _ h2
    refine ⟨⟨k0, k1, k2⟩, ?_⟩
    unfold patE
    simp only [List.append_assoc]
    simp only at e0 e1 e2
    rw [e0, e1, e2]⟩

/-! ## what may be a patch -/
def labelB (s : ByteArray) : Bool := decide (0 < s.size ∧ s.size ≤ 24) && s.data.toList.all fun b => letN b.toNat
def tokB (s : ByteArray) : Bool := Ln.tokenB s.data.toList
def primR (x : Prm) : Bool :=
  if right 16 8 (bl x.f1) = false ∨ ((0 < x.f5.length + x.f6.length ∨ x.f4 ≠ 0) ∧ x.f0 ≠ 7) then false
  else if x.f0 = 8 then tokB x.f3 && tokB x.f2 && decide (x.f3 ≠ x.f2)
  else if x.f0 = 9 then decide (x.f3 ≠ x.f2)
  else if x.f3 ≠ ⟨#[]⟩ then false
  else if x.f0 = 10 then right 16 8 (bl x.f2) && (!withinB (bl x.f1) (bl x.f2) && !withinB (bl x.f2) (bl x.f1))
  else if x.f0 = 7 then decide (x.f2 = ⟨#[]⟩) && decide (0 ≤ x.f4) && decide (x.f4 ≤ 1073741824) && Ln.rightB x.f5 && Ln.rightB x.f6 && decide (0 < x.f5.length + x.f6.length)
  else decide (x.f2 = ⟨#[]⟩) && decide (1 ≤ x.f0) && decide (x.f0 ≤ 6)
def before (a b : ByteArray) : Bool := Op.bytesLess a.toList b.toList
def depOk (name : ByteArray) (l : List ByteArray) (i : Nat) : Bool := labelB (l.getD i ⟨#[]⟩) && !decide (l.getD i ⟨#[]⟩ = name) && (decide (i = 0) || before (l.getD (i - 1) ⟨#[]⟩) (l.getD i ⟨#[]⟩))
def depsR (name : ByteArray) (l : List ByteArray) : Bool := (List.range l.length).all fun i => depOk name l i
def patR (p : Pat) : Bool := labelB p.name && decide (p.deps.length ≤ 256) && decide (p.body.length ≤ 256) && depsR p.name p.deps && p.body.all primR
/-- The patch of bytes, if there is one. -/
def getP (b : List UInt8) : Option Pat := match patP b with
  | some (p, []) => if patR p = true then some p else none
  | _ => none
theorem getP_some {b : List UInt8} {p : Pat} (h : getP b = some p) : patR p = true ∧ patOk p ∧ b = patE p := by
  unfold getP at h
  split at h
  · rename_i q hq
    split at h
    · rename_i hr
      obtain rfl := Option.some.inj h
      obtain ⟨k1, k2⟩ := codec_pat.dec _ _ _ hq
      exact ⟨hr, k1, by rw [k2, List.append_nil]⟩
    · cases h
  · cases h
theorem getP_put {p : Pat} (h : patOk p) (hr : patR p = true) : getP (patE p) = some p := by
  have := codec_pat.enc p [] h
  rw [List.append_nil] at this
  unfold getP
  rw [this]
  exact if_pos hr
/-- Bytes that are cut, or have more behind, are none's. -/
theorem getP_cut {p : Pat} (h : patOk p) {b t : List UInt8} (e : patE p = b ++ t) (ht : t ≠ []) : getP b = none := by
  cases hg : getP b with
  | none => rfl
  | some q =>
    obtain ⟨_, k2, k3⟩ := getP_some hg
    have h1 := codec_pat.enc q t k2
    rw [← k3, ← e] at h1
    have h2 := codec_pat.enc p [] h
    rw [List.append_nil, h1] at h2
    have := (Prod.mk.inj (Option.some.inj h2)).2
    exact absurd this ht
theorem getP_more {p : Pat} (h : patOk p) {t : List UInt8} (ht : t ≠ []) : getP (patE p ++ t) = none := by
  unfold getP
  rw [codec_pat.enc p t h]
  cases t with
  | nil => exact absurd rfl ht
  | cons c t => rfl
theorem patE_inj {p q : Pat} (hp : patOk p) (hq : patOk q) (h : patE p = patE q) : p = q := by
  have h1 := codec_pat.enc p [] hp
  rw [h, codec_pat.enc q [] hq] at h1
  exact (Prod.mk.inj (Option.some.inj h1)).1.symm
end Go.Proofs.YtijfedahhgcfpaaDoor
/- What the reader of patches answers, as functions of its state; that they read what is put. Plain. -/
set_option linter.unusedVariables false
set_option linter.unusedSimpArgs false
namespace Go.Proofs.YtijfedahhgcfpaaDoor
open Go.RowKit Go.Proofs.YtijfedahhgcfpaaDoorW.PrintWords Go.Proofs.YtijfedahhgcfpaaDoorW.PrintLast

abbrev RS : Type := ByteArray × Bool
def baN (l : List UInt8) : ByteArray := ⟨l.toArray⟩
theorem baN_list (l : List UInt8) : (baN l).data.toList = l := rfl
theorem baN_back (s : ByteArray) : baN s.data.toList = s := by
  obtain ⟨⟨s⟩⟩ := s
  rfl
theorem baN_size (l : List UInt8) : (baN l).size = l.length := by
  show l.toArray.size = _
  rw [List.size_toArray]
def rnum (s : RS) : Nat × RS := match numP s.1.data.toList with
  | some (n, r) => if s.2 = true then (0, (s.1, true)) else (n, (baN r, false))
  | none => (0, (s.1, true))
def rnumI (s : RS) : Int × RS := (((rnum s).1 : Int), (rnum s).2)
def rtext (s : RS) : ByteArray × RS :=
  if (rnum s).2.2 = true ∨ (rnum s).2.1.size < (rnum s).1 then (⟨#[]⟩, ((rnum s).2.1, true)) else (baN ((rnum s).2.1.data.toList.take (rnum s).1), (baN ((rnum s).2.1.data.toList.drop (rnum s).1), false))
def rmany {α : Type} (one : RS → α × RS) : Nat → List α → RS → List α × RS
  | 0, acc, s => (acc, s)
  | n + 1, acc, s => if s.2 = true then (acc, s) else rmany one n (acc ++ [(one s).1]) (one s).2
def rsome {α : Type} (one : RS → α × RS) (s : RS) : List α × RS := rmany one (rnum s).1 [] (rnum s).2
def rbd {α β : Type} (f : RS → α × RS) (g : α → RS → β × RS) : RS → β × RS := fun s => g (f s).1 (f s).2
def pbd {α β : Type} (P : List UInt8 → Option (α × List UInt8)) (Q : α → List UInt8 → Option (β × List UInt8)) : List UInt8 → Option (β × List UInt8) := fun b => (P b).bind fun p => Q p.1 p.2
def rret {α : Type} (x : α) : RS → α × RS := fun s => (x, s)
def rprim : RS → Prm × RS := rbd rnumI fun a0 => rbd rtext fun a1 => rbd rtext fun a2 => rbd rtext fun a3 => rbd rnumI fun a4 => rbd (rsome rtext) fun a5 => rbd (rsome rtext) fun a6 => rret ⟨a0, a1, a2, a3, a4, a5, a6⟩
def rpat : RS → Pat × RS := rbd rtext fun a => rbd (rsome rtext) fun b => rbd (rsome rprim) fun c => rret ⟨a, b, c⟩
theorem primP_eq : primP = pbd numIP fun a0 => pbd textP fun a1 => pbd textP fun a2 => pbd textP fun a3 => pbd numIP fun a4 => pbd (listP textP) fun a5 => pbd (listP textP) fun a6 => fun b => some (⟨a0, a1, a2, a3, a4, a5, a6⟩, b) := rfl
theorem patP_eq : patP = pbd textP fun a => pbd (listP textP) fun b => pbd (listP primP) fun c => fun r => some (⟨a, b, c⟩, r) := rfl
structure Agrees {α : Type} (f : RS → α × RS) (P : List UInt8 → Option (α × List UInt8)) : Prop where
  bad : ∀ s : RS, s.2 = true → (f s).2.2 = true
  good : ∀ (s : ByteArray) (x : α) (r : List UInt8), P s.data.toList = some (x, r) → f (s, false) = (x, (baN r, false))
  none : ∀ s : ByteArray, P s.data.toList = none → (f (s, false)).2.2 = true
theorem agrees_num : Agrees rnum numP := ⟨fun s h => by
    unfold rnum
    split
    · rw [if_pos h]
    · rfl, fun s x r h => by
    unfold rnum
    simp only
    rw [h]
    rfl, fun s h => by
    unfold rnum
    simp only
    rw [h]⟩
theorem agrees_bind {α β : Type} {f : RS → α × RS} {P : List UInt8 → Option (α × List UInt8)} {g : α → RS → β × RS} {Q : α → List UInt8 → Option (β × List UInt8)} (hf : Agrees f P) (hg : ∀ a, Agrees (g a) (Q a)) : Agrees (rbd f g) (pbd P Q) := ⟨fun s h => (hg _).bad _ (hf.bad s h), fun s x r h => by
    obtain ⟨⟨y, r1⟩, h1, h2⟩ := Option.bind_eq_some_iff.1 h
    have e := hf.good s y r1 h1
    show g (f (s, false)).1 (f (s, false)).2 = _
    rw [e]
    exact (hg y).good (baN r1) x r h2, fun s h => by
    show (g (f (s, false)).1 (f (s, false)).2).2.2 = true
    cases hp : P s.data.toList with
    | none => exact (hg _).bad _ (hf.none s hp)
    | some p =>
      obtain ⟨y, r1⟩ := p
      rw [hf.good s y r1 hp]
      have h' : Q y r1 = none := by
        have h0 : ((P s.data.toList).bind fun p => Q p.1 p.2) = none := h
        rw [hp] at h0
        exact h0
      exact (hg y).none (baN r1) h'⟩
theorem agrees_pure {α : Type} (x : α) : Agrees (rret x) (fun b => some (x, b)) := ⟨fun s h => h, fun s y r h => by
    obtain ⟨rfl, rfl⟩ := Prod.mk.inj (Option.some.inj h)
    show (x, (s, false)) = (x, (baN s.data.toList, false))
    rw [baN_back], fun s h => by cases h⟩
theorem agrees_numI : Agrees rnumI numIP := by
  have h := agrees_bind agrees_num (fun a : Nat => agrees_pure (a : Int))
  have e : (pbd numP fun (a : Nat) b => some ((a : Int), b)) = numIP := by
    funext b
    unfold numIP pbd
    cases numP b <;> rfl
  rw [e] at h
  exact h
theorem agrees_text : Agrees rtext textP := ⟨fun s h => by
    unfold rtext
    rw [if_pos (.inl (agrees_num.bad s h))], fun s x r h => by
    unfold textP at h
    obtain ⟨⟨n, t⟩, h1, h2⟩ := Option.bind_eq_some_iff.1 h
    have e := agrees_num.good s n t h1
    split at h2
    · rename_i hn
      obtain ⟨rfl, rfl⟩ := Prod.mk.inj (Option.some.inj h2)
      unfold rtext
      rw [e, if_neg]
      · rfl
      · rintro (h | h)
        · cases h
        · simp only at h hn
          rw [baN_size] at h
          omega
    · exact absurd h2 (by simp), fun s h => by
    unfold rtext
    cases hp : numP s.data.toList with
    | none => rw [if_pos (.inl (agrees_num.none s hp))]
    | some p =>
      obtain ⟨n, t⟩ := p
      have e := agrees_num.good s n t hp
      have h0 : (if n ≤ t.length then some ((⟨(t.take n).toArray⟩ : ByteArray), t.drop n) else none) = none := by
        unfold textP at h
        rw [hp] at h
        exact h
      rw [e, if_pos]
      right
      rw [baN_size]
      rcases Nat.lt_or_ge t.length n with h1 | h1
      · exact h1
      · rw [if_pos h1] at h0
        cases h0⟩
theorem rmany_bad {α : Type} (one : RS → α × RS) : ∀ (n : Nat) (acc : List α) (s : RS), s.2 = true → (rmany one n acc s).2.2 = true
  | 0, acc, s, h => h
  | n + 1, acc, s, h => by
    rw [rmany, if_pos h]
    exact h
theorem rmany_ok {α : Type} {one : RS → α × RS} {P : List UInt8 → Option (α × List UInt8)} (h : Agrees one P) : ∀ (n : Nat) (acc : List α) (s : ByteArray),
    (∀ l r, manyP P n s.data.toList = some (l, r) → rmany one n acc (s, false) = (acc ++ l, (baN r, false))) ∧ (manyP P n s.data.toList = none → (rmany one n acc (s, false)).2.2 = true)
  | 0, acc, s => ⟨fun l r e => by
      obtain ⟨rfl, rfl⟩ := Prod.mk.inj (Option.some.inj e)
      rw [rmany, List.append_nil, baN_back], fun e => by cases e⟩
  | n + 1, acc, s => by
    rw [rmany, if_neg (by simp)]
    cases hp : P s.data.toList with
    | none =>
      refine ⟨fun l r e => ?_, fun _ => rmany_bad one n _ _ (h.none s hp)⟩
      rw [manyP, hp] at e
      cases e
    | some p =>
      obtain ⟨x, r1⟩ := p
      rw [h.good s x r1 hp]
      obtain ⟨k1, k2⟩ := rmany_ok h n (acc ++ [x]) (baN r1)
      refine ⟨fun l r e => ?_, fun e => ?_⟩
      · rw [manyP, hp] at e
        have e' : ((manyP P n r1).bind fun q => some (x :: q.1, q.2)) = some (l, r) := e
        obtain ⟨⟨l2, r2⟩, h3, h4⟩ := Option.bind_eq_some_iff.1 e'
        obtain ⟨rfl, rfl⟩ := Prod.mk.inj (Option.some.inj h4)
        rw [k1 l2 r2 h3]
        simp
      · rw [manyP, hp] at e
        refine k2 ?_
        cases hq : manyP P n r1 with
        | none => exact hq
        | some q =>
          exfalso
          have e' : ((manyP P n r1).bind fun q => some (x :: q.1, q.2)) = none := e
          rw [hq] at e'
          cases e'
theorem agrees_some {α : Type} {one : RS → α × RS} {P : List UInt8 → Option (α × List UInt8)} (h : Agrees one P) : Agrees (rsome one) (listP P) :=
  agrees_bind (g := fun n s => rmany one n [] s) (Q := fun n b => manyP P n b) agrees_num (fun n => ⟨fun s hs => rmany_bad one n [] s hs, fun s l r e => (rmany_ok h n [] s).1 l r e, fun s e => (rmany_ok h n [] s).2 e⟩)
theorem agrees_prim : Agrees rprim primP := by
  rw [primP_eq]
  exact agrees_bind agrees_numI fun a0 => agrees_bind agrees_text fun a1 => agrees_bind agrees_text fun a2 => agrees_bind agrees_text fun a3 => agrees_bind agrees_numI fun a4 => agrees_bind (agrees_some agrees_text) fun a5 => agrees_bind (agrees_some agrees_text) fun a6 => agrees_pure _
theorem agrees_pat : Agrees rpat patP := by
  rw [patP_eq]
  exact agrees_bind agrees_text fun a => agrees_bind (agrees_some agrees_text) fun b => agrees_bind (agrees_some agrees_prim) fun c => agrees_pure _
/-- The patch of bytes is what the reader leaves. -/
theorem getP_read (s : ByteArray) : getP s.data.toList = if (rpat (s, false)).2.2 = true ∨ (rpat (s, false)).2.1.size ≠ 0 ∨ patR (rpat (s, false)).1 = false then none else some (rpat (s, false)).1 := by
  unfold getP
  cases hp : patP s.data.toList with
  | none =>
    rw [if_pos (.inl (agrees_pat.none s hp))]
  | some q =>
    obtain ⟨p, r⟩ := q
    rw [agrees_pat.good s p r hp]
    cases r with
    | nil =>
      cases hr : patR p with
      | true => simp [baN, hr]; rfl
      | false => simp [baN, hr]
    | cons c r =>
      rw [if_pos (.inr (.inl (by rw [baN_size]; simp)))]
theorem rnum_lt (s : RS) : (rnum s).1 < 100000000000 := by
  unfold rnum
  split
  · rename_i n r h
    split
    · omega
    · exact (numP_back h).1
  · show 0 < _
    omega
end Go.Proofs.YtijfedahhgcfpaaDoor
