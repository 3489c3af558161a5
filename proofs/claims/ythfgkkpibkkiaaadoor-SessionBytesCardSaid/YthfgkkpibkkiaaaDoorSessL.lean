/- A frame's bytes are read as it was: plain. -/
import Derived.Test.YthfgkkpibkkiaaaDoorSessK
import Derived.Lib.AtoiTie
import Derived.Lib.ParseIntBTie
import Derived.WideShapes
set_option linter.unusedVariables false
set_option linter.unusedSimpArgs false
namespace Go.Proofs.YthfgkkpibkkiaaaDoor
open Go.RowKit Go.Proofs.YthfgkkpibkkiaaaDoorW.PrintWords Go.Proofs.YthfgkkpibkkiaaaDoorW.PrintLast Go.Proofs.YthfgkkpibkkiaaaDoor.PSessionPlays

theorem digit_byte (d : Nat) (h : d < 10) : (UInt8.ofNat (48 + d)).toNat = 48 + d := by
  rw [UInt8.toNat_ofNat_of_lt']
  show 48 + d < 256
  omega
theorem decDigits_small {u : Nat} (h : u < 10) : Lib.decDigits u = [UInt8.ofNat (48 + u)] := by rw [Lib.decDigits, dif_pos h]
theorem decDigits_big {u : Nat} (h : ¬ u < 10) : Lib.decDigits u = Lib.decDigits (u / 10) ++ [UInt8.ofNat (48 + u % 10)] := by rw [Lib.decDigits, dif_neg h]
theorem decDigits_all (u : Nat) : ∀ c ∈ Lib.decDigits u, 48 ≤ c.toNat ∧ c.toNat ≤ 57 := by
  induction u using Nat.strongRecOn with
  | ind u ih =>
    by_cases h : u < 10
    · rw [decDigits_small h]
      intro c hc
      rw [List.mem_singleton] at hc
      subst hc
      rw [digit_byte u h]
      omega
    · rw [decDigits_big h]
      intro c hc
      rw [List.mem_append, List.mem_singleton] at hc
      rcases hc with hc | rfl
      · exact ih (u / 10) (by omega) c hc
      · rw [digit_byte (u % 10) (by omega)]
        omega
theorem decDigits_pos (u : Nat) : Lib.decDigits u ≠ [] := by
  by_cases h : u < 10
  · rw [decDigits_small h]; simp
  · rw [decDigits_big h]; simp
theorem decDigits_len : ∀ (k u : Nat), 0 < k → u < 10 ^ k → (Lib.decDigits u).length ≤ k
  | 0, _, h, _ => absurd h (by omega)
  | k + 1, u, _, hu => by
    by_cases h : u < 10
    · rw [decDigits_small h]
      simp
    · rw [decDigits_big h, List.length_append, List.length_singleton]
      have h0 : 0 < k := by
        rcases Nat.eq_zero_or_pos k with rfl | h0
        · simp at hu; omega
        · exact h0
      have := decDigits_len k (u / 10) h0 (by rw [Nat.pow_succ] at hu; omega)
      omega
theorem decFrom_append : ∀ (l m : List UInt8) (a : Nat), Lib.decFrom a (l ++ m) = (Lib.decFrom a l).bind fun b => Lib.decFrom b m
  | [], m, a => by simp [Lib.decFrom]
  | c :: l, m, a => by
    simp only [List.cons_append, Lib.decFrom]
    cases Lib.digitVal c with
    | none => rfl
    | some d => exact decFrom_append l m _
theorem digitVal_of (d : Nat) (h : d < 10) : Lib.digitVal (UInt8.ofNat (48 + d)) = some d := by
  unfold Lib.digitVal
  simp only [digit_byte d h]
  rw [if_pos (by omega)]
  congr 1
  omega
theorem decFrom_digits (u : Nat) : Lib.decFrom 0 (Lib.decDigits u) = some u := by
  induction u using Nat.strongRecOn with
  | ind u ih =>
    by_cases h : u < 10
    · rw [decDigits_small h]
      simp only [Lib.decFrom, digitVal_of u h]
      simp
    · rw [decDigits_big h, decFrom_append, ih (u / 10) (by omega)]
      simp only [Option.bind_some, Lib.decFrom, digitVal_of (u % 10) (by omega)]
      congr 1
      omega
theorem parse_digits (u : Nat) (hu : u < 10 ^ 18) : Lib.parseIntB 64 (Lib.decDigits u) = .ok (u : Int) := by
  rw [Lib.parseIntB_64, Lib.atoiAll_short _ (decDigits_len 18 u (by omega) hu)]
  have hd := decFrom_digits u
  have ha := decDigits_all u
  have hp := decDigits_pos u
  generalize Lib.decDigits u = l at hd ha hp
  cases l with
  | nil => exact absurd rfl hp
  | cons c r =>
    have hc := ha c (by simp)
    unfold Lib.atoi
    have h1 : (c == 45) = false := by
      rw [beq_eq_false_iff_ne]
      rintro rfl
      exact absurd hc.1 (by decide)
    have h2 : (c == 43) = false := by
      rw [beq_eq_false_iff_ne]
      rintro rfl
      exact absurd hc.1 (by decide)
    simp only [h1, h2, Bool.false_eq_true, if_false]
    unfold Lib.decNat
    simp [hd, Lib.NumEnd.ofOption]
theorem index_blank : ∀ (d r : List UInt8), (32 : UInt8) ∉ d → Lib.index (d ++ 32 :: r) [32] = (d.length : Int)
  | [], r, _ => by simp [Lib.index]
  | c :: d, r, h => by
    have hc : c ≠ 32 := fun e => h (by rw [e]; simp)
    have ih := index_blank d r (fun h' => h (by simp [h']))
    simp only [List.cons_append, Lib.index]
    rw [ih]
    have hp : ([32] : List UInt8).isPrefixOf (c :: (d ++ 32 :: r)) = false := by
      simp [List.isPrefixOf]
      exact fun e => hc e.symm
    rw [hp]
    simp only [Bool.false_eq_true, if_false]
    rw [if_neg (by simp)]
    simp
theorem no_blank (u : Nat) : (32 : UInt8) ∉ Lib.decDigits u := fun h => absurd (decDigits_all u _ h).1 (by decide)
theorem next_num (n : Int) (h0 : 0 ≤ n) (h1 : n ≤ 1099511627776) (r : List UInt8) : nextB (Lib.itoa n ++ [32] ++ r) = some (n, r) := by
  obtain ⟨u, rfl⟩ := Int.eq_ofNat_of_zero_le h0
  rw [Lib.itoa_nonneg, List.append_assoc, List.singleton_append]
  unfold nextB
  rw [index_blank _ _ (no_blank u), if_pos (by omega), Int.toNat_natCast]
  have ht : (Lib.decDigits u ++ 32 :: r).take (Lib.decDigits u).length = Lib.decDigits u := by simp
  have hd : (Lib.decDigits u ++ 32 :: r).drop ((Lib.decDigits u).length + 1) = r := by
    rw [← List.drop_drop]
    simp
  rw [ht, hd, parse_digits u (by omega)]
  simp only
  rw [if_neg (by omega)]
theorem nextV_num (n : Int) (h0 : 0 ≤ n) (h1 : n ≤ 1099511627776) (r : List UInt8) : nextV (Lib.itoa n ++ [32] ++ r) = n := by unfold nextV; rw [next_num n h0 h1]
theorem nextL_num (n : Int) (h0 : 0 ≤ n) (h1 : n ≤ 1099511627776) (r : List UInt8) : nextL (Lib.itoa n ++ [32] ++ r) = r := by unfold nextL; rw [next_num n h0 h1]
theorem okWide_nil {P : Program} {w : World} {r : Reach} {base : Nat} {t e : TypeId} {a : Option Addr} {n c : Nat} (ht : P.underlying t = some (.slice e)) (h : Value.okWide P w r base t (.slice a n c)) : a = none → c = 0 := by
  rintro rfl
  simp only [Value.okWide, ht, Cell.okWide] at h
  cases c with
  | zero => rfl
  | succ c => simp_all [Cell.ok]
theorem bytes_nmI : ∀ {l : List Int}, (∀ x ∈ l, (Lit.int .u8 x).wf = true) → ∃ m : List UInt8, l = nmI m
  | [], _ => ⟨[], rfl⟩
  | x :: l, h => by
    obtain ⟨m, hm⟩ := bytes_nmI (l := l) (fun y hy => h y (by simp [hy]))
    have hw := h x (by simp)
    have hb : 0 ≤ x ∧ x < 256 := by
      simp [Lit.wf, IntKind.min, IntKind.max, IntKind.bits, IntKind.signed] at hw
      omega
    refine ⟨UInt8.ofNat x.toNat :: m, ?_⟩
    rw [hm]
    unfold nmI
    rw [List.map_cons, UInt8.toNat_ofNat_of_lt' (show x.toNat < 256 by omega)]
    congr 1
    omega
/-- A right frame's bytes are read as it was. -/
theorem back_plain (x : S24) (l4 : List UInt8) (h4 : x.f4 = nmI l4) (hok : okF x = true) : ∃ p, putB x = nmI p ∧ getOk p = true ∧ getB p = x ∧ 0 < p.length ∧ p.length ≤ 1000000 := by
  obtain ⟨a, b, hh, c, d⟩ := x
  subst h4
  have hb : (0 ≤ a ∧ a ≤ 1099511627776) ∧ (0 ≤ b ∧ b ≤ 1073741824) ∧ (0 ≤ c ∧ c ≤ 1073741824) ∧ l4.length ≤ 32768 := by
    unfold okF okEp okN at hok
    simp [nmI_length] at hok
    omega
  obtain ⟨e, he, heb⟩ : ∃ e : Int, e = (if hh then 1 else 0) ∧ (e = 0 ∨ e = 1) := by cases hh <;> exact ⟨_, rfl, by simp⟩
  have he2 : (e == 1) = hh := by subst he; cases hh <;> rfl
  have hfe : ∀ r, fieldsB [a, b, c, e] ++ r = Lib.itoa a ++ [32] ++ (Lib.itoa b ++ [32] ++ (Lib.itoa c ++ [32] ++ (Lib.itoa e ++ [32] ++ r))) := by
    intro r
    unfold fieldsB
    simp [List.append_assoc]
  have e0 : nextL (fieldsB [a, b, c, e] ++ l4) = Lib.itoa b ++ [32] ++ (Lib.itoa c ++ [32] ++ (Lib.itoa e ++ [32] ++ l4)) := by rw [hfe, nextL_num a hb.1.1 hb.1.2]
  have e1 : nextL (nextL (fieldsB [a, b, c, e] ++ l4)) = Lib.itoa c ++ [32] ++ (Lib.itoa e ++ [32] ++ l4) := by rw [e0, nextL_num b hb.2.1.1 (by omega)]
  have e2 : nextL (nextL (nextL (fieldsB [a, b, c, e] ++ l4))) = Lib.itoa e ++ [32] ++ l4 := by rw [e1, nextL_num c hb.2.2.1.1 (by omega)]
  have e3 : nextL (nextL (nextL (nextL (fieldsB [a, b, c, e] ++ l4)))) = l4 := by rw [e2, nextL_num e (by omega) (by omega)]
  have hg : getF (fieldsB [a, b, c, e] ++ l4) = ⟨a, b, hh, c, nmI l4⟩ := by
    unfold getF getL4 getL3 getL2 getL1
    rw [e3, e2, e1, e0, hfe, nextV_num a hb.1.1 hb.1.2, nextV_num b hb.2.1.1 (by omega), nextV_num c hb.2.2.1.1 (by omega), nextV_num e (by omega) (by omega), he2]
  have hp : putB ⟨a, b, hh, c, nmI l4⟩ = nmI (fieldsB [a, b, c, e] ++ l4) := by
    unfold putB
    simp only [nmI_append]
    rw [he]
  have ho : getOk (fieldsB [a, b, c, e] ++ l4) = true := by
    unfold getOk
    rw [hg, hok, hp, decide_eq_true rfl]
    rfl
  refine ⟨_, hp, ho, by unfold getB; rw [if_pos ho, hg], ?_, ?_⟩
  · rw [hfe]
    simp
    omega
  · have hs := fields_small [a, b, c, e] (by
      intro y hy
      simp at hy
      unfold i64ok
      rcases hy with rfl | rfl | rfl | rfl <;> omega)
    rw [List.length_append]
    simp at hs
    omega
end Go.Proofs.YthfgkkpibkkiaaaDoor
