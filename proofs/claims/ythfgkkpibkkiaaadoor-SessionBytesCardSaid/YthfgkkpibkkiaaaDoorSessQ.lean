/- The reference's Get reads what the program's Get reads: plain. -/
import Derived.Test.YthfgkkpibkkiaaaDoorSessL
set_option linter.unusedVariables false
set_option linter.unusedSimpArgs false
namespace Go.Proofs.YthfgkkpibkkiaaaDoor
open Go.RowKit Go.Proofs.YthfgkkpibkkiaaaDoorW.PrintWords Go.Proofs.YthfgkkpibkkiaaaDoorW.PrintLast Go.Proofs.YthfgkkpibkkiaaaDoor.PSessionPlays

def isDig (c : UInt8) : Bool := decide (48 ≤ c.toNat ∧ c.toNat ≤ 57)
def valF (a : Nat) : List UInt8 → Nat
  | [] => a
  | c :: t => valF (10 * a + (c.toNat - 48)) t
def valD (l : List UInt8) : Nat := valF 0 l
/-- How many digits a row begins with, k at most. -/
def runD : Nat → List UInt8 → Nat
  | 0, _ => 0
  | _ + 1, [] => 0
  | k + 1, c :: t => if isDig c then runD k t + 1 else 0
theorem runD_le : ∀ (k : Nat) (l : List UInt8), runD k l ≤ k ∧ runD k l ≤ l.length
  | 0, _ => by simp [runD]
  | _ + 1, [] => by simp [runD]
  | k + 1, c :: t => by
    have := runD_le k t
    unfold runD
    split
    · simp; omega
    · simp
theorem runD_all : ∀ (k : Nat) (l : List UInt8), ∀ c ∈ l.take (runD k l), isDig c = true
  | 0, _ => by simp [runD]
  | _ + 1, [] => by simp [runD]
  | k + 1, c :: t => by
    have ih := runD_all k t
    unfold runD
    split
    · rename_i h
      intro x hx
      rw [List.take_succ_cons, List.mem_cons] at hx
      rcases hx with rfl | hx
      · exact h
      · exact ih x hx
    · simp
theorem runD_digits : ∀ (k : Nat) (D r : List UInt8), (∀ c ∈ D, isDig c = true) → D.length ≤ k → (∀ c, r.head? = some c → isDig c = false) → runD k (D ++ r) = D.length
  | 0, D, r, _, h, _ => by
    obtain rfl : D = [] := List.eq_nil_of_length_eq_zero (by omega)
    rfl
  | k + 1, [], r, _, _, hr => by
    cases r with
    | nil => rfl
    | cons c r =>
      simp only [List.nil_append, runD]
      rw [hr c rfl]
      rfl
  | k + 1, c :: D, r, hd, h, hr => by
    simp only [List.cons_append, runD]
    rw [if_pos (hd c (by simp)), runD_digits k D r (fun x hx => hd x (by simp [hx])) (by simp at h; omega) hr]
    simp
theorem valF_append (l m : List UInt8) : ∀ a, valF a (l ++ m) = valF (valF a l) m := by
  induction l with
  | nil => exact fun a => rfl
  | cons c l ih => exact fun a => ih (10 * a + (c.toNat - 48))
theorem valF_ge (l : List UInt8) : ∀ a, a ≤ valF a l := by
  induction l with
  | nil => exact fun a => Nat.le_refl a
  | cons c l ih => exact fun a => Nat.le_trans (show a ≤ 10 * a + (c.toNat - 48) by omega) (ih (10 * a + (c.toNat - 48)))
theorem valF_lt (l : List UInt8) : (∀ c ∈ l, isDig c = true) → ∀ a, valF a l < (a + 1) * 10 ^ l.length := by
  induction l with
  | nil =>
    intro _ a
    show a < (a + 1) * 10 ^ 0
    rw [Nat.pow_zero]
    omega
  | cons c l ih =>
    intro h a
    have hc := h c (by simp)
    unfold isDig at hc
    rw [decide_eq_true_iff] at hc
    have ih := ih (fun x hx => h x (by simp [hx])) (10 * a + (c.toNat - 48))
    show valF (10 * a + (c.toNat - 48)) l < (a + 1) * 10 ^ (l.length + 1)
    rw [Nat.pow_succ, Nat.mul_comm (10 ^ l.length) 10, ← Nat.mul_assoc]
    refine Nat.lt_of_lt_of_le ih ?_
    exact Nat.mul_le_mul_right _ (by omega)
theorem dec_val : ∀ (n : Nat) (D : List UInt8), D.length = n → (∀ c ∈ D, isDig c = true) → D ≠ [] → (D.length ≤ 1 ∨ D.head? ≠ some 48) → Lib.decDigits (valD D) = D
  | 0, D, hn, _, h0, _ => absurd (List.eq_nil_of_length_eq_zero hn) h0
  | n + 1, D, hn, hd, h0, hz => by
    obtain ⟨E, c, rfl⟩ : ∃ E c, D = E ++ [c] := ⟨D.dropLast, D.getLast h0, (List.dropLast_concat_getLast h0).symm⟩
    have hc := hd c (by simp)
    unfold isDig at hc
    rw [decide_eq_true_iff] at hc
    have hcc : UInt8.ofNat (48 + (c.toNat - 48)) = c := by
      rw [show 48 + (c.toNat - 48) = c.toNat by omega]
      exact UInt8.ofNat_toNat
    have hv : valD (E ++ [c]) = 10 * valD E + (c.toNat - 48) := by
      unfold valD
      rw [valF_append]
      rfl
    rw [hv]
    by_cases hE : E = []
    · subst hE
      show Lib.decDigits (10 * 0 + (c.toNat - 48)) = [] ++ [c]
      rw [decDigits_small (by omega), List.nil_append, Nat.mul_zero, Nat.zero_add, hcc]
    · have hz' : E.head? ≠ some 48 := by
        rcases hz with hz | hz
        · have : 0 < E.length := List.length_pos_iff.2 hE
          rw [List.length_append, List.length_singleton] at hz
          omega
        · cases E with
          | nil => exact absurd rfl hE
          | cons e E => exact hz
      have hpos : 1 ≤ valD E := by
        cases E with
        | nil => exact absurd rfl hE
        | cons e E =>
          have he := hd e (by simp)
          unfold isDig at he
          rw [decide_eq_true_iff] at he
          have hne : e ≠ 48 := fun h => hz' (by rw [h]; rfl)
          have hne' : e.toNat ≠ 48 := fun h => hne (UInt8.toNat_inj.1 h)
          have := valF_ge E (10 * 0 + (e.toNat - 48))
          show 1 ≤ valF (10 * 0 + (e.toNat - 48)) E
          omega
      have ih := dec_val n E (by simp at hn; exact hn) (fun x hx => hd x (by simp [hx])) hE (.inr hz')
      rw [decDigits_big (by omega), show (10 * valD E + (c.toNat - 48)) / 10 = valD E by omega, show (10 * valD E + (c.toNat - 48)) % 10 = c.toNat - 48 by omega, ih, hcc]
theorem val_dec (u : Nat) : valD (Lib.decDigits u) = u := by
  induction u using Nat.strongRecOn with
  | ind u ih =>
    by_cases h : u < 10
    · rw [decDigits_small h]
      show 10 * 0 + ((UInt8.ofNat (48 + u)).toNat - 48) = u
      rw [digit_byte u h]
      omega
    · rw [decDigits_big h]
      unfold valD
      rw [valF_append]
      show 10 * valD (Lib.decDigits (u / 10)) + ((UInt8.ofNat (48 + u % 10)).toNat - 48) = u
      rw [ih (u / 10) (by omega), digit_byte (u % 10) (by omega)]
      omega
theorem dec_dig (u : Nat) : ∀ c ∈ Lib.decDigits u, isDig c = true := fun c hc => by unfold isDig; exact decide_eq_true (decDigits_all u c hc)
theorem dec_head (u : Nat) : (Lib.decDigits u).length ≤ 1 ∨ (Lib.decDigits u).head? ≠ some 48 := by
  induction u using Nat.strongRecOn with
  | ind u ih =>
    by_cases h : u < 10
    · rw [decDigits_small h]
      exact .inl (by simp)
    · right
      rw [decDigits_big h]
      by_cases h1 : u / 10 < 10
      · rw [decDigits_small h1]
        simp only [List.singleton_append, List.head?_cons, ne_eq, Option.some.injEq]
        intro e
        have := congrArg UInt8.toNat e
        rw [digit_byte _ h1] at this
        have h48 : (48 : UInt8).toNat = 48 := rfl
        omega
      · have hp := decDigits_pos (u / 10)
        rcases ih (u / 10) (by omega) with hl | hl
        · rw [decDigits_big h1] at hl
          have := List.length_pos_iff.2 (decDigits_pos (u / 10 / 10))
          rw [List.length_append, List.length_singleton] at hl
          omega
        · cases hD : Lib.decDigits (u / 10) with
          | nil => exact absurd hD hp
          | cons e E =>
            rw [hD] at hl
            exact hl
/-- What digits answers. -/
def digOk (l : List UInt8) : Bool := decide (0 < runD 14 l) && decide (runD 14 l < l.length) && (l.getD (runD 14 l) 0 == 32) && !(decide (1 < runD 14 l) && (l.getD 0 0 == 48))
def digN (l : List UInt8) : Nat := valD (l.take (runD 14 l))
def digR (l : List UInt8) : List UInt8 := l.drop (runD 14 l + 1)
theorem dig_made (u : Nat) (hu : u < 10 ^ 14) (r : List UInt8) : digOk (Lib.decDigits u ++ 32 :: r) = true ∧ digN (Lib.decDigits u ++ 32 :: r) = u ∧ digR (Lib.decDigits u ++ 32 :: r) = r := by
  have hr : runD 14 (Lib.decDigits u ++ 32 :: r) = (Lib.decDigits u).length := runD_digits 14 _ _ (dec_dig u) (decDigits_len 14 u (by omega) hu) (fun c hc => by cases hc; rfl)
  have hp := List.length_pos_iff.2 (decDigits_pos u)
  refine ⟨?_, ?_, ?_⟩
  · unfold digOk
    rw [hr, decide_eq_true hp, decide_eq_true (by simp)]
    have h1 : (Lib.decDigits u ++ 32 :: r).getD (Lib.decDigits u).length 0 = 32 := by simp [List.getD_eq_getElem?_getD]
    rw [h1]
    have h2 : (decide (1 < (Lib.decDigits u).length) && ((Lib.decDigits u ++ 32 :: r).getD 0 0 == 48)) = false := by
      rcases dec_head u with h | h
      · rw [decide_eq_false (by omega)]; rfl
      · cases hD : Lib.decDigits u with
        | nil => exact absurd hD (decDigits_pos u)
        | cons e E =>
          rw [hD] at h
          have he : (e == 48) = false := by rw [beq_eq_false_iff_ne]; exact fun e' => h (by rw [e']; rfl)
          simp [List.getD_eq_getElem?_getD]
          intro _
          exact fun e' => h (by rw [e']; rfl)
    rw [h2]
    rfl
  · unfold digN
    rw [hr, List.take_left, val_dec]
  · unfold digR
    rw [hr, ← List.drop_drop, List.drop_left]
    rfl
theorem dig_read (l : List UInt8) (h : digOk l = true) : l = Lib.decDigits (digN l) ++ 32 :: digR l := by
  unfold digOk at h
  simp only [Bool.and_eq_true, decide_eq_true_iff, beq_iff_eq, Bool.not_eq_true', Bool.and_eq_false_iff] at h
  obtain ⟨⟨⟨h1, h2⟩, h3⟩, h4⟩ := h
  have hl : (l.take (runD 14 l)).length = runD 14 l := by rw [List.length_take]; omega
  have hd := dec_val _ (l.take (runD 14 l)) rfl (runD_all 14 l) (fun e => by rw [e] at hl; simp at hl; omega) (by
    rw [hl]
    rcases h4 with h4 | h4
    · exact .inl (by simpa using h4)
    · right
      rw [beq_eq_false_iff_ne] at h4
      cases hL : l with
      | nil => rw [hL] at h2; simp at h2
      | cons c t =>
        rw [hL] at h4 h1
        intro e
        apply h4
        have hk : ∃ k, runD 14 (c :: t) = k + 1 := ⟨runD 14 (c :: t) - 1, by omega⟩
        obtain ⟨k, hk⟩ := hk
        rw [hk, List.take_succ_cons] at e
        simpa using e)
  unfold digN digR
  rw [hd]
  have h5 : l.drop (runD 14 l) = l.getD (runD 14 l) 0 :: l.drop (runD 14 l + 1) := by
    rw [List.getD_eq_getElem?_getD, List.getElem?_eq_getElem h2]
    exact List.drop_eq_getElem_cons h2
  rw [h3] at h5
  rw [← h5, List.take_append_drop]
theorem digN_lt (l : List UInt8) : digN l < 10 ^ 14 := by
  unfold digN valD
  have h := valF_lt (l.take (runD 14 l)) (runD_all 14 l) 0
  refine Nat.lt_of_lt_of_le h ?_
  rw [Nat.zero_add, Nat.one_mul]
  exact Nat.pow_le_pow_right (by omega) (by rw [List.length_take]; have := runD_le 14 l; omega)
/-- The reference's Get, step by step. -/
def resN (l : List UInt8) : Nat → List UInt8
  | 0 => l
  | k + 1 => digR (resN l k)
def numN (l : List UInt8) (k : Nat) : Nat := digN (resN l k)
def stepOk (l : List UInt8) (k : Nat) : Bool := digOk (resN l k) && (decide (k = 0) || decide (numN l k ≤ 1073741824)) && (decide (k ≠ 3) || decide (numN l k ≤ 1))
def rF (l : List UInt8) : S24 := ⟨(numN l 0 : Int), (numN l 1 : Int), (numN l 3 : Int) == 1, (numN l 2 : Int), nmI (resN l 4)⟩
def rOk (l : List UInt8) : Bool := stepOk l 0 && stepOk l 1 && stepOk l 2 && stepOk l 3 && okF (rF l)
theorem rOk_get (l : List UInt8) (h : rOk l = true) : getOk l = true ∧ getF l = rF l := by
  unfold rOk at h
  simp only [Bool.and_eq_true] at h
  obtain ⟨⟨⟨⟨s0, s1⟩, s2⟩, s3⟩, hok⟩ := h
  unfold stepOk at s0 s1 s2 s3
  simp only [Bool.and_eq_true] at s0 s1 s2 s3
  have e0 := dig_read _ s0.1.1
  have e1 := dig_read _ s1.1.1
  have e2 := dig_read _ s2.1.1
  have e3 := dig_read _ s3.1.1
  have h3 : numN l 3 ≤ 1 := by simpa using s3.2
  have hl : l = Lib.decDigits (numN l 0) ++ 32 :: (Lib.decDigits (numN l 1) ++ 32 :: (Lib.decDigits (numN l 2) ++ 32 :: (Lib.decDigits (numN l 3) ++ 32 :: resN l 4))) := by
    have e0' : l = Lib.decDigits (numN l 0) ++ 32 :: resN l 1 := e0
    have e1' : resN l 1 = Lib.decDigits (numN l 1) ++ 32 :: resN l 2 := e1
    have e2' : resN l 2 = Lib.decDigits (numN l 2) ++ 32 :: resN l 3 := e2
    have e3' : resN l 3 = Lib.decDigits (numN l 3) ++ 32 :: resN l 4 := e3
    rw [← e3', ← e2', ← e1', ← e0']
  have hput : putB (rF l) = nmI l := by
    have hi : (if (rF l).f2 then 1 else 0 : Int) = (numN l 3 : Int) := by
      show (if ((numN l 3 : Int) == 1) = true then 1 else 0 : Int) = (numN l 3 : Int)
      rcases Nat.lt_or_ge (numN l 3) 1 with h | h
      · have : numN l 3 = 0 := by omega
        rw [this]; rfl
      · have : numN l 3 = 1 := by omega
        rw [this]; rfl
    unfold putB
    rw [hi]
    show nmI (fieldsB [(numN l 0 : Int), (numN l 1 : Int), (numN l 2 : Int), (numN l 3 : Int)]) ++ nmI (resN l 4) = nmI l
    rw [← nmI_append]
    congr 1
    conv => rhs; rw [hl]
    unfold fieldsB
    simp [Lib.itoa_nonneg, List.append_assoc]
  obtain ⟨p, hp1, hp2, hp3, _⟩ := back_plain (rF l) (resN l 4) rfl hok
  have hpl : p = l := nmI_inj (by rw [← hp1, hput])
  subst hpl
  refine ⟨hp2, ?_⟩
  unfold getB at hp3
  rw [if_pos hp2] at hp3
  exact hp3
theorem get_rOk (l : List UInt8) (h : getOk l = true) : rOk l = true := by
  unfold getOk at h
  rw [Bool.and_eq_true, decide_eq_true_iff] at h
  obtain ⟨hok, hput⟩ := h
  obtain ⟨f, hf⟩ : ∃ f, f = getF l := ⟨_, rfl⟩
  have hf4 : f.f4 = nmI (getL4 l) := by rw [hf]; rfl
  rw [← hf] at hok hput
  obtain ⟨a, b, hh, c, d⟩ := f
  have hf4 : d = nmI (getL4 l) := hf4
  subst hf4
  have hb : (0 ≤ a ∧ a ≤ 1099511627776) ∧ (0 ≤ b ∧ b ≤ 1073741824) ∧ (0 ≤ c ∧ c ≤ 1073741824) := by
    have hok2 := hok
    unfold okF okEp okN at hok2
    simp [nmI_length] at hok2
    omega
  obtain ⟨A, rfl⟩ := Int.eq_ofNat_of_zero_le hb.1.1
  obtain ⟨B, rfl⟩ := Int.eq_ofNat_of_zero_le hb.2.1.1
  obtain ⟨C, rfl⟩ := Int.eq_ofNat_of_zero_le hb.2.2.1
  obtain ⟨e, he, heb⟩ : ∃ e : Nat, (e : Int) = (if hh then 1 else 0) ∧ e ≤ 1 := by
    cases hh
    · exact ⟨0, rfl, by omega⟩
    · exact ⟨1, rfl, by omega⟩
  have hl : l = Lib.decDigits A ++ 32 :: (Lib.decDigits B ++ 32 :: (Lib.decDigits C ++ 32 :: (Lib.decDigits e ++ 32 :: getL4 l))) := by
    apply nmI_inj
    rw [← hput]
    unfold putB
    simp only
    rw [← he, ← nmI_append]
    congr 1
    unfold fieldsB
    simp [Lib.itoa_nonneg, List.append_assoc]
  obtain ⟨t, ht⟩ : ∃ t, t = getL4 l := ⟨_, rfl⟩
  rw [← ht] at hl hok
  clear ht hput hf
  have r0 := dig_made A (by omega) (Lib.decDigits B ++ 32 :: (Lib.decDigits C ++ 32 :: (Lib.decDigits e ++ 32 :: t)))
  have r1 := dig_made B (by omega) (Lib.decDigits C ++ 32 :: (Lib.decDigits e ++ 32 :: t))
  have r2 := dig_made C (by omega) (Lib.decDigits e ++ 32 :: t)
  have r3 := dig_made e (by omega) t
  have q0 : resN l 0 = Lib.decDigits A ++ 32 :: (Lib.decDigits B ++ 32 :: (Lib.decDigits C ++ 32 :: (Lib.decDigits e ++ 32 :: t))) := hl
  have q1 : resN l 1 = Lib.decDigits B ++ 32 :: (Lib.decDigits C ++ 32 :: (Lib.decDigits e ++ 32 :: t)) := by show digR (resN l 0) = _; rw [q0, r0.2.2]
  have q2 : resN l 2 = Lib.decDigits C ++ 32 :: (Lib.decDigits e ++ 32 :: t) := by show digR (resN l 1) = _; rw [q1, r1.2.2]
  have q3 : resN l 3 = Lib.decDigits e ++ 32 :: t := by show digR (resN l 2) = _; rw [q2, r2.2.2]
  have q4 : resN l 4 = t := by show digR (resN l 3) = _; rw [q3, r3.2.2]
  have n0 : numN l 0 = A := by unfold numN; rw [q0, r0.2.1]
  have n1 : numN l 1 = B := by unfold numN; rw [q1, r1.2.1]
  have n2 : numN l 2 = C := by unfold numN; rw [q2, r2.2.1]
  have n3 : numN l 3 = e := by unfold numN; rw [q3, r3.2.1]
  have hrF : rF l = ⟨(A : Int), (B : Int), hh, (C : Int), nmI t⟩ := by
    unfold rF
    rw [n0, n1, n2, n3, q4, he]
    cases hh <;> rfl
  unfold rOk
  rw [hrF, hok]
  unfold stepOk
  rw [q0, q1, q2, q3, r0.1, r1.1, r2.1, r3.1, n1, n2, n3]
  rw [decide_eq_true (show B ≤ 1073741824 by omega), decide_eq_true (show C ≤ 1073741824 by omega), decide_eq_true (show e ≤ 1 by omega), decide_eq_true (show e ≤ 1073741824 by omega)]
  simp
theorem rOk_iff (l : List UInt8) : getOk l = rOk l := by
  rw [Bool.eq_iff_iff]
  exact ⟨get_rOk l, fun h => (rOk_get l h).1⟩
theorem getB_ref (l : List UInt8) : getB l = if rOk l = true then rF l else ⟨0, 0, false, 0, []⟩ := by
  unfold getB
  rw [rOk_iff]
  split
  · rename_i h
    exact (rOk_get l h).2
  · rfl
theorem getE_ref (l : List UInt8) : getE l = if rOk l = true then 0 else 3 := by
  unfold getE
  rw [rOk_iff]
end Go.Proofs.YthfgkkpibkkiaaaDoor
