/- What the reference's padded, words and turned compute, in plain Lean (of the functions that the print has written for them). -/
import Derived.Test.YtnjdighpdcabcaaSb
import Derived.Test.YtnjdighpdcabcaaPStoreClashx8
import Derived.Test.YtnjdighpdcabcaaPStoreClashx9
import Derived.Test.YtnjdighpdcabcaaPStoreClashx1
set_option linter.unusedVariables false
set_option linter.unusedSimpArgs false
namespace Go.Proofs.Ytnjdighpdcabcaa
open Go.RowKit Go.Proofs.YtnjdighpdcabcaaW.PrintWords Go.Proofs.YtnjdighpdcabcaaW.PrintLast
open Go.Proofs.Ytnjdighpdcabcaa.PStoreClash

theorem rd_num (s : List (BitVec 32)) (i : Nat) : rd (s.map num) (i : Int) = num (s.getD i 0) := by
  unfold rd
  simp only [List.getD_eq_getElem?_getD, List.getElem?_map, Int.toNat_natCast]
  cases s[i]? <;> rfl
theorem rd_byt (s : List (BitVec 8)) (i : Nat) : rd (s.map byt) (i : Int) = byt (s.getD i 0) := by
  unfold rd
  simp only [List.getD_eq_getElem?_getD, List.getElem?_map, Int.toNat_natCast]
  cases s[i]? <;> rfl
theorem turned_f (x : BitVec 32) (n : Nat) (h1 : 1 ≤ n) (h2 : n ≤ 31) : counterpaneref02_turned.f (num x) (n : Int) = some (num (rotr x n)) := by
  have e1 : wrap64 (32 - (n : Int)) = ((32 - n : Nat) : Int) := by unfold wrap64; omega
  unfold counterpaneref02_turned.f
  rw [if_pos (by omega), e1, if_pos (by omega)]
  congr 1
  unfold shr shl
  rw [show min (n : Int).toNat IntKind.u32.bits = n by show min _ 32 = n; omega, show min (((32 - n : Nat) : Int)).toNat IntKind.u32.bits = 32 - n by show min _ 32 = _; omega]
  rw [show IntKind.u32.wrap (num x * 2 ^ (32 - n)) = (num x * 2 ^ (32 - n)) % 4294967296 from rfl, num_shl, num_shr, bits_or]
  rfl
theorem wr0 (k i : Nat) (h : k * i < 100000) : wrap64 ((k : Int) * (i : Int)) = ((k * i : Nat) : Int) := by
  rw [show (k : Int) * (i : Int) = ((k * i : Nat) : Int) by simp]
  unfold wrap64
  omega
theorem wr1 (j k : Nat) (h : j + k < 100000) : wrap64 ((j : Int) + (k : Int)) = ((j + k : Nat) : Int) := by unfold wrap64; omega
theorem wr2 (j k : Nat) (h : k ≤ j) (h2 : j < 100000) : wrap64 ((j : Int) - (k : Int)) = ((j - k : Nat) : Int) := by unfold wrap64; omega

theorem sched_lo (bs : List (BitVec 8)) (i : Nat) (h : i < 16) : sched bs (i + 1) = sched bs i ++ [word bs i] := by
  rw [sched]
  simp only [if_pos h]
theorem sched_hi (bs : List (BitVec 8)) (i : Nat) (h : ¬ i < 16) : sched bs (i + 1) = sched bs i ++ [(sched bs i).getD (i - 16) 0 + sig0 ((sched bs i).getD (i - 15) 0) + (sched bs i).getD (i - 7) 0 + sig1 ((sched bs i).getD (i - 2) 0)] := by
  rw [sched]
  simp only [if_neg h]
theorem words_step1 (s : List (BitVec 32)) (i k : Nat) (hl0 : s.length = i) (h16 : 16 ≤ i) (h64 : i < 64) :
    counterpaneref02_words.l1 (k + 1) (s.map num) (i : Int) = counterpaneref02_words.l1 k ((s ++ [s.getD (i - 16) 0 + sig0 (s.getD (i - 15) 0) + s.getD (i - 7) 0 + sig1 (s.getD (i - 2) 0)]).map num) ((i + 1 : Nat) : Int) := by
  have hl : (s.map num).length = i := by rw [List.length_map, hl0]
  obtain ⟨a15, ha⟩ : ∃ a, a = i - 15 := ⟨_, rfl⟩
  obtain ⟨a2, hb⟩ : ∃ a, a = i - 2 := ⟨_, rfl⟩
  obtain ⟨a16, hc⟩ : ∃ a, a = i - 16 := ⟨_, rfl⟩
  obtain ⟨a7, hd⟩ : ∃ a, a = i - 7 := ⟨_, rfl⟩
  have q0 : (i : Int) < 64 ∧ (0 : Int) ≤ a15 ∧ (a15 : Int) < (i : Int) ∧ (0 : Int) ≤ a2 ∧ (a2 : Int) < (i : Int) ∧ (0 : Int) ≤ a16 ∧ (a16 : Int) < (i : Int) ∧ (0 : Int) ≤ a7 ∧ (a7 : Int) < (i : Int) ∧ i < 35184372088832 := by omega
  obtain ⟨q1, q2, q3, q4, q5, q6, q7, q8, q9, q10⟩ := q0
  have E : wrap64 ((i : Int) - 15) = (a15 : Int) ∧ wrap64 ((i : Int) - 2) = (a2 : Int) ∧ wrap64 ((i : Int) - 16) = (a16 : Int) ∧ wrap64 ((i : Int) - 7) = (a7 : Int) ∧ wrap64 ((i : Int) + 1) = ((i + 1 : Nat) : Int) := by
    refine ⟨?_, ?_, ?_, ?_, wr1 i 1 (by omega)⟩
    · rw [ha]; exact wr2 i 15 (by omega) (by omega)
    · rw [hb]; exact wr2 i 2 (by omega) (by omega)
    · rw [hc]; exact wr2 i 16 (by omega) (by omega)
    · rw [hd]; exact wr2 i 7 (by omega) (by omega)
  obtain ⟨e15, e2, e16, e7, e1⟩ := E
  rw [counterpaneref02_words.l1, e15, e2, e16, e7, e1, hl, ← ha, ← hb, ← hc, ← hd, rd_num, rd_num, rd_num, rd_num, if_pos q1, if_pos q2, if_pos q3, if_pos q4, if_pos q5]
  generalize s.getD a15 0 = y15
  generalize s.getD a2 0 = y2
  generalize s.getD a16 0 = y16
  generalize s.getD a7 0 = y7
  have t7 : counterpaneref02_turned.f (num y15) 7 = _ := turned_f y15 7 (by decide) (by decide)
  have t18 : counterpaneref02_turned.f (num y15) 18 = _ := turned_f y15 18 (by decide) (by decide)
  have t17 : counterpaneref02_turned.f (num y2) 17 = _ := turned_f y2 17 (by decide) (by decide)
  have t19 : counterpaneref02_turned.f (num y2) 19 = _ := turned_f y2 19 (by decide) (by decide)
  rw [t7, Option.bind_some, t18, Option.bind_some, t17, Option.bind_some, t19, Option.bind_some, if_pos q6, if_pos q7, if_pos q8, if_pos q9, if_pos q10]
  have h3 := num_shr y15 3
  have h10 := num_shr y2 10
  rw [show (2 : Int) ^ 3 = 8 by decide] at h3
  rw [show (2 : Int) ^ 10 = 1024 by decide] at h10
  rw [h3, h10, bits_xor, bits_xor, bits_xor, bits_xor, num_add, num_add, num_add, List.map_append]
  rfl
theorem words_step0 (bs : List (BitVec 8)) (s : List (BitVec 32)) (i k : Nat) (hb : bs.length = 64) (hl0 : s.length = i) (h16 : i < 16) :
    counterpaneref02_words.l0 (k + 1) (bs.map byt) (s.map num) (i : Int) = counterpaneref02_words.l0 k (bs.map byt) ((s ++ [word bs i]).map num) ((i + 1 : Nat) : Int) := by
  have hl : (s.map num).length = i := by rw [List.length_map, hl0]
  have hlb : (bs.map byt).length = 64 := by rw [List.length_map, hb]
  obtain ⟨a0, ha⟩ : ∃ a, a = 4 * i := ⟨_, rfl⟩
  have q0 : (i : Int) < 16 ∧ (0 : Int) ≤ a0 ∧ (a0 : Int) < ((64 : Nat) : Int) ∧ (0 : Int) ≤ ((a0 + 1 : Nat) : Int) ∧ ((a0 + 1 : Nat) : Int) < ((64 : Nat) : Int) ∧ (0 : Int) ≤ ((a0 + 2 : Nat) : Int) ∧ ((a0 + 2 : Nat) : Int) < ((64 : Nat) : Int) ∧ (0 : Int) ≤ ((a0 + 3 : Nat) : Int) ∧ ((a0 + 3 : Nat) : Int) < ((64 : Nat) : Int) ∧ i < 35184372088832 := by omega
  obtain ⟨q1, q2, q3, q4, q5, q6, q7, q8, q9, q10⟩ := q0
  have E : wrap64 (4 * (i : Int)) = (a0 : Int) ∧ wrap64 ((a0 : Int) + 1) = ((a0 + 1 : Nat) : Int) ∧ wrap64 ((a0 : Int) + 2) = ((a0 + 2 : Nat) : Int) ∧ wrap64 ((a0 : Int) + 3) = ((a0 + 3 : Nat) : Int) ∧ wrap64 ((i : Int) + 1) = ((i + 1 : Nat) : Int) := by
    refine ⟨?_, wr1 a0 1 (by omega), wr1 a0 2 (by omega), wr1 a0 3 (by omega), wr1 i 1 (by omega)⟩
    rw [ha]; exact wr0 4 i (by omega)
  obtain ⟨e4, e5, e6, e7, e1⟩ := E
  rw [counterpaneref02_words.l0, e4, e5, e6, e7, e1, hl, hlb, rd_byt, rd_byt, rd_byt, rd_byt, if_pos q1, if_pos q2, if_pos q3, if_pos q4, if_pos q5, if_pos q6, if_pos q7, if_pos q8, if_pos q9, if_pos q10, byt_num, byt_num, byt_num, byt_num, word_val, List.map_append]
  unfold word
  rw [← ha]
  rfl
theorem words_l1 (bs : List (BitVec 8)) (T : List (BitVec 32)) (e : Nat) (he : e = 64) (hT : T = sched bs e) : ∀ (d i k : Nat), 16 ≤ i → i + d = e → d < k → counterpaneref02_words.l1 k ((sched bs i).map num) (i : Int) = some (T.map num) := by
  intro d
  induction d with
  | zero =>
    intro i k h16 hd hk
    obtain ⟨k, rfl⟩ : ∃ m, k = m + 1 := ⟨k - 1, by omega⟩
    obtain rfl : i = e := by omega
    rw [← hT, counterpaneref02_words.l1, if_neg (by omega)]
  | succ d ih =>
    intro i k h16 hd hk
    obtain ⟨k, rfl⟩ : ∃ m, k = m + 1 := ⟨k - 1, by omega⟩
    rw [words_step1 _ _ _ (sched_length bs i) h16 (by omega), ← sched_hi bs i (by omega)]
    exact ih (i + 1) k (by omega) (by omega) (by omega)
theorem words_l0 (bs : List (BitVec 8)) (T : List (BitVec 32)) (e : Nat) (he : e = 64) (hT : T = sched bs e) (hb : bs.length = 64) : ∀ (d i k : Nat), i + d = 16 → d + 50 < k → counterpaneref02_words.l0 k (bs.map byt) ((sched bs i).map num) (i : Int) = some (T.map num) := by
  intro d
  induction d with
  | zero =>
    intro i k hd hk
    obtain ⟨k, rfl⟩ : ∃ m, k = m + 1 := ⟨k - 1, by omega⟩
    have hi : i = 16 := by omega
    have h1 := words_l1 bs T e he hT 48 i k (by omega) (by omega) (by omega)
    rw [counterpaneref02_words.l0, if_neg (by omega), show (16 : Int) = (i : Int) by omega]
    exact h1
  | succ d ih =>
    intro i k hd hk
    obtain ⟨k, rfl⟩ : ∃ m, k = m + 1 := ⟨k - 1, by omega⟩
    rw [words_step0 bs _ _ _ hb (sched_length bs i) (by omega), ← sched_lo bs i (by omega)]
    exact ih (i + 1) k (by omega) (by omega)
theorem words_f (bs : List (BitVec 8)) (hb : bs.length = 64) (T : List (BitVec 32)) (hT : T = sched bs 64) : counterpaneref02_words.f 100 (bs.map byt) = some (T.map num) := by
  have h := words_l0 bs T 64 rfl hT hb 16 0 100 (by omega) (by omega)
  rw [show sched bs 0 = [] from rfl, List.map_nil] at h
  unfold counterpaneref02_words.f
  exact h

/-! ## padded -/
theorem padded_l1 (x : List Int) (n : Nat) (hx : x.length < 2000000000) (hn : n < 1000000000) : counterpaneref02_padded.l1 9 x ((n : Int) * 8) 0 = some (x ++ (lenBytes n).map byt) := by
  have s : ∀ (i : Nat) (hi : i ≤ 8), shr .u64 ((n : Int) * 8) (8 * i : Nat) % 256 = byt (lenByte n i) := by
    intro i hi
    rw [byt_len]
    unfold shr
    rw [show min ((8 * i : Nat) : Int).toNat IntKind.u64.bits = 8 * i by show min _ 64 = _; omega]
  have s0 := s 0 (by omega)
  have s1 := s 1 (by omega)
  have s2 := s 2 (by omega)
  have s3 := s 3 (by omega)
  have s4 := s 4 (by omega)
  have s5 := s 5 (by omega)
  have s6 := s 6 (by omega)
  have s7 := s 7 (by omega)
  simp only [Nat.reduceMul, Int.cast_ofNat_Int] at s0 s1 s2 s3 s4 s5 s6 s7
  have w0 : wrap64 (56 - wrap64 (8 * 0)) = 56 := by unfold wrap64; omega
  have w1 : wrap64 (56 - wrap64 (8 * 1)) = 48 := by unfold wrap64; omega
  have w2 : wrap64 (56 - wrap64 (8 * 2)) = 40 := by unfold wrap64; omega
  have w3 : wrap64 (56 - wrap64 (8 * 3)) = 32 := by unfold wrap64; omega
  have w4 : wrap64 (56 - wrap64 (8 * 4)) = 24 := by unfold wrap64; omega
  have w5 : wrap64 (56 - wrap64 (8 * 5)) = 16 := by unfold wrap64; omega
  have w6 : wrap64 (56 - wrap64 (8 * 6)) = 8 := by unfold wrap64; omega
  have w7 : wrap64 (56 - wrap64 (8 * 7)) = 0 := by unfold wrap64; omega
  have v0 : wrap64 (0 + 1) = 1 := by unfold wrap64; omega
  have v1 : wrap64 (1 + 1) = 2 := by unfold wrap64; omega
  have v2 : wrap64 (2 + 1) = 3 := by unfold wrap64; omega
  have v3 : wrap64 (3 + 1) = 4 := by unfold wrap64; omega
  have v4 : wrap64 (4 + 1) = 5 := by unfold wrap64; omega
  have v5 : wrap64 (5 + 1) = 6 := by unfold wrap64; omega
  have v6 : wrap64 (6 + 1) = 7 := by unfold wrap64; omega
  have v7 : wrap64 (7 + 1) = 8 := by unfold wrap64; omega
  have step : ∀ (k : Nat) (y : List Int) (j s i j2 : Int), j < 8 → wrap64 (56 - wrap64 (8 * j)) = s → 0 ≤ s → y.length < 140737488355328 → shr .u64 ((n : Int) * 8) s % 256 = i → wrap64 (j + 1) = j2 → counterpaneref02_padded.l1 (k + 1) y ((n : Int) * 8) j = counterpaneref02_padded.l1 k (y ++ [i]) ((n : Int) * 8) j2 := by
    intro k y j s i j2 h1 h2 h3 h4 h5 h6
    rw [counterpaneref02_padded.l1, if_pos h1, h2, if_pos h3, if_pos h4, h5, h6]
  rw [step 8 _ _ _ _ _ (by decide) w0 (by decide) (by omega) s7 v0,
    step 7 _ _ _ _ _ (by decide) w1 (by decide) (by simp only [List.length_append, List.length_singleton]; omega) s6 v1,
    step 6 _ _ _ _ _ (by decide) w2 (by decide) (by simp only [List.length_append, List.length_singleton]; omega) s5 v2,
    step 5 _ _ _ _ _ (by decide) w3 (by decide) (by simp only [List.length_append, List.length_singleton]; omega) s4 v3,
    step 4 _ _ _ _ _ (by decide) w4 (by decide) (by simp only [List.length_append, List.length_singleton]; omega) s3 v4,
    step 3 _ _ _ _ _ (by decide) w5 (by decide) (by simp only [List.length_append, List.length_singleton]; omega) s2 v5,
    step 2 _ _ _ _ _ (by decide) w6 (by decide) (by simp only [List.length_append, List.length_singleton]; omega) s1 v6,
    step 1 _ _ _ _ _ (by decide) w7 (by decide) (by simp only [List.length_append, List.length_singleton]; omega) s0 v7]
  rw [counterpaneref02_padded.l1, if_neg (by decide)]
  simp [lenBytes]
theorem padded_l0 (bs : List (BitVec 8)) (hb : bs.length < 1000000000) : ∀ (d j k : Nat), j + d = zeros bs.length → d + 10 ≤ k → counterpaneref02_padded.l0 k (bs.map byt) (((bs ++ 128#8 :: List.replicate j 0#8)).map byt) = some ((pad bs).map byt)
  | 0, j, k, hd, hk => by
    obtain ⟨k, rfl⟩ : ∃ m, k = m + 10 := ⟨k - 10, by omega⟩
    have hz : zeros bs.length = j := by omega
    have hz2 := hz
    unfold zeros at hz2
    have hl : ((bs ++ 128#8 :: List.replicate j 0#8).map byt).length = bs.length + 1 + j := by simp; omega
    have e : IntKind.u64.wrap (IntKind.u64.wrap ((bs.map byt).length : Int) * 8) = (bs.length : Int) * 8 := by
      rw [List.length_map]
      simp only [IntKind.wrap, IntKind.bits, IntKind.signed]
      simp
      omega
    rw [show k + 10 = (k + 9) + 1 from rfl, counterpaneref02_padded.l0, hl, if_pos (by omega), e]
    have h1 := padded_l1 ((bs ++ 128#8 :: List.replicate j 0#8).map byt) bs.length (by rw [hl]; omega) hb
    have mono : ∀ k, counterpaneref02_padded.l1 (k + 9) ((bs ++ 128#8 :: List.replicate j 0#8).map byt) ((bs.length : Int) * 8) 0 = some (((bs ++ 128#8 :: List.replicate j 0#8).map byt) ++ (lenBytes bs.length).map byt) := by
      intro k
      induction k with
      | zero => exact h1
      | succ m ih =>
        have := (counterpaneref02_padded.mono_l (m + 9)).2 ((bs ++ 128#8 :: List.replicate j 0#8).map byt) ((bs.length : Int) * 8) 0
        rw [show m + 1 + 9 = m + 9 + 1 by omega]
        exact this _ ih
    rw [mono]
    congr 1
    rw [← List.map_append, pad, hz]
    simp
  | d + 1, j, k, hd, hk => by
    obtain ⟨k, rfl⟩ : ∃ m, k = m + 1 := ⟨k - 1, by omega⟩
    have hz2 : zeros bs.length = j + (d + 1) := by omega
    unfold zeros at hz2
    have hl : ((bs ++ 128#8 :: List.replicate j 0#8).map byt).length = bs.length + 1 + j := by simp; omega
    rw [counterpaneref02_padded.l0, hl, if_neg (by omega), if_pos (by omega)]
    have e : (bs ++ 128#8 :: List.replicate j 0#8).map byt ++ [0] = (bs ++ 128#8 :: List.replicate (j + 1) 0#8).map byt := by
      rw [List.replicate_succ']
      simp [byt]
    rw [e]
    exact padded_l0 bs hb d (j + 1) k (by omega) (by omega)
theorem padded_f (bs : List (BitVec 8)) (hb : bs.length < 1000000000) : counterpaneref02_padded.f 100 (bs.map byt) = some ((pad bs).map byt) := by
  have h := padded_l0 bs hb (zeros bs.length) 0 100 (by omega) (by have : zeros bs.length < 64 := Nat.mod_lt _ (by decide); omega)
  unfold counterpaneref02_padded.f
  simp only [Option.bind_some, List.nil_append, List.length_nil, Nat.zero_add, List.length_map]
  rw [if_pos (by omega), if_pos (by omega)]
  have e : (bs ++ 128#8 :: List.replicate 0 0#8).map byt = bs.map byt ++ [128] := by simp [byt]
  rw [e] at h
  exact h
end Go.Proofs.Ytnjdighpdcabcaa
/- The reference's constants; its round is the same one; what is left of a row of words, or bytes, behind a call. -/
set_option linter.unusedVariables false
set_option linter.unusedSimpArgs false
namespace Go.Proofs.Ytnjdighpdcabcaa
open Go.RowKit Go.Proofs.YtnjdighpdcabcaaW.PrintWords Go.Proofs.YtnjdighpdcabcaaW.PrintLast
open Go.Proofs.Ytnjdighpdcabcaa.PStoreClash

theorem wcells_size (xs : List (BitVec 32)) : (wcells xs).size = xs.length := by simp [wcells]
theorem wcells_one (xs : List (BitVec 32)) : (wcells xs).all (·.oneCell') = true := by simp [wcells, Value.oneCell']
theorem ArrAt.setRow {w : World} {b : Nat} {t : TypeId} {xs ys : List (BitVec 32)} (h : ArrAt w b t xs) : ArrAt (w.setRow b (wcells ys)) b t ys := setRow_heap w b _ _ t (0, 0) h
theorem ck {w1 w2 : World} (k : Below w1.heap.size w1 w2) {p : Addr} {u : Value} (h : w1.cell? p = some u) : w2.cell? p = some u := by
  by_cases hp : p.block < w1.heap.size
  · rw [k.cell hp]; exact h
  · exfalso
    have : w1.heap[p.block]? = none := by simp; omega
    unfold World.cell? at h
    simp [this] at h
theorem R_addr {d : Kd Int} {e : Nat} {w : World} {base : Nat} {ok : Nat → Prop} {v : Value} {xs : List Int} (h : d.R e w base ok v xs) :
    ∃ A c, v = .slice A xs.length c ∧ xs.length ≤ c ∧ d.C w A xs.length xs ∧ ∀ ad, A = some ad → base ≤ ad.block := by
  obtain ⟨A, c, rfl, hc, hC⟩ := Kd.R_reads h
  obtain ⟨inner, ho⟩ := Kd.R_own h
  exact ⟨A, c, rfl, hc, hC, fun ad e => own_base ho ad.block (by subst e; rfl)⟩
theorem word_at {w w' : World} {A : Option Addr} {xs : List (BitVec 32)} {n : Nat} (h : Kd.C (Kd.int .u32) w A n (xs.map num)) (hl : xs.length = n) (hB : Below w.heap.size w w') (j : Nat) (hj : j < n) :
    ∃ ad, A = some ad ∧ w'.cell? (ad.add j) = some (.int .u32 (num (xs.getD j 0))) := by
  obtain ⟨ad, e, hc⟩ := (Kd.C_below h hB).2.2 (by omega)
  obtain ⟨c, _, hK, hcell⟩ := hc j (num (xs.getD j 0)) (by rw [List.getElem?_map, List.getElem?_eq_getElem (by omega), List.getD_eq_getElem?_getD, List.getElem?_eq_getElem (by omega)]; rfl)
  obtain rfl : c = [.int .u32 (num (xs.getD j 0))] := hK
  have := hcell 0 _ rfl
  exact ⟨ad, e, by simpa [Kd.int, Kd.scalar] using this⟩
theorem ch_eq (e f g : BitVec 32) : (e &&& f) ^^^ (~~~e &&& g) = g ^^^ (e &&& (f ^^^ g)) := by
  apply BitVec.eq_of_getLsbD_eq
  intro i hi
  simp only [BitVec.getLsbD_xor, BitVec.getLsbD_and, BitVec.getLsbD_not]
  cases e.getLsbD i <;> cases f.getLsbD i <;> cases g.getLsbD i <;> simp [hi]
theorem maj_eq (a b c : BitVec 32) : (a &&& b) ^^^ (a &&& c) ^^^ (b &&& c) = (a &&& b) ||| (c &&& (a ||| b)) := by
  apply BitVec.eq_of_getLsbD_eq
  intro i hi
  simp only [BitVec.getLsbD_xor, BitVec.getLsbD_and, BitVec.getLsbD_or]
  cases a.getLsbD i <;> cases b.getLsbD i <;> cases c.getLsbD i <;> rfl

theorem padded_any (cp : Nat) (A : Option Addr) (bs : List (BitVec 8)) (w : World) (hb : Kd.C (Kd.int .u8) w A bs.length (bs.map byt)) (hc : bs.length ≤ cp) (hl : bs.length < 1000000000) :
    Calls Try.prog 54 #[.slice A bs.length cp] w fun e w' => ∃ A2 c2, e = .returned (.slice A2 (pad bs).length c2) ∧ (pad bs).length ≤ c2 ∧ Kd.C (Kd.int .u8) w' A2 (pad bs).length ((pad bs).map byt) ∧ (∀ ad, A2 = some ad → w.heap.size ≤ ad.block) ∧ Below w.heap.size w w' := by
  have e : (bs.map byt).length = bs.length := by simp
  have h := counterpaneref02_padded.calls 100 A cp (bs.map byt) ((pad bs).map byt) w (by rw [e]; exact hb) (by rw [e]; exact hc) (padded_f bs hl)
  rw [e] at h
  refine h.mono ?_
  rintro x w' ⟨v, rfl, hR, hB⟩
  obtain ⟨A2, c2, rfl, h1, h2, h3⟩ := R_addr hR
  rw [List.length_map] at h1 h2
  exact ⟨A2, c2, by rw [List.length_map], h1, h2, h3, hB⟩
theorem words_any (cp : Nat) (A : Option Addr) (bs : List (BitVec 8)) (w : World) (T : List (BitVec 32)) (hT : T = sched bs 64) (hb : Kd.C (Kd.int .u8) w A 64 (bs.map byt)) (hbl : bs.length = 64) (hc : 64 ≤ cp) :
    Calls Try.prog 55 #[.slice A 64 cp] w fun e w' => ∃ A2 c2, e = .returned (.slice A2 64 c2) ∧ 64 ≤ c2 ∧ Kd.C (Kd.int .u32) w' A2 64 (T.map num) ∧ (∀ ad, A2 = some ad → w.heap.size ≤ ad.block) ∧ Below w.heap.size w w' := by
  have e : (bs.map byt).length = 64 := by rw [List.length_map, hbl]
  have h := counterpaneref02_words.calls 100 A cp (bs.map byt) (T.map num) w (by rw [e]; exact hb) (by rw [e]; exact hc) (words_f bs hbl T hT)
  rw [e] at h
  have e2 : (T.map num).length = 64 := by rw [List.length_map, hT, sched_length]
  clear hT
  refine h.mono ?_
  rintro x w' ⟨v, rfl, hR, hB⟩
  obtain ⟨A2, c2, rfl, h1, h2, h3⟩ := R_addr hR
  rw [e2] at h1 h2
  exact ⟨A2, c2, by rw [e2], h1, h2, h3, hB⟩

theorem not_val (x : BitVec 32) : bits BinOp.xor IntKind.u32 (if IntKind.u32.signed = true then -1 else IntKind.u32.max) (num x) = num (~~~x) := by
  rw [show (if IntKind.u32.signed = true then -1 else IntKind.u32.max) = num (BitVec.allOnes 32) from rfl, bits_xor, BitVec.allOnes_xor]
theorem t_val2 (x4 x5 x6 x7 k w : BitVec 32) : ((((num x7 + bits BinOp.xor IntKind.u32 (bits BinOp.xor IntKind.u32 (num (rotr x4 6)) (num (rotr x4 11))) (num (rotr x4 25))) % 4294967296 + bits BinOp.xor IntKind.u32 (bits BinOp.and IntKind.u32 (num x4) (num x5)) (bits BinOp.and IntKind.u32 (bits BinOp.xor IntKind.u32 (if IntKind.u32.signed = true then -1 else IntKind.u32.max) (num x4)) (num x6))) % 4294967296 + num k) % 4294967296 + num w) % 4294967296 = num (x7 + big1 x4 + (x6 ^^^ (x4 &&& (x5 ^^^ x6))) + k + w) := by
  rw [not_val, bits_xor, bits_xor, bits_and, bits_and, bits_xor, num_add, num_add, num_add, num_add, ch_eq]
  rfl
theorem u_val2 (x0 x1 x2 : BitVec 32) : (bits BinOp.xor IntKind.u32 (bits BinOp.xor IntKind.u32 (num (rotr x0 2)) (num (rotr x0 13))) (num (rotr x0 22)) + bits BinOp.xor IntKind.u32 (bits BinOp.xor IntKind.u32 (bits BinOp.and IntKind.u32 (num x0) (num x1)) (bits BinOp.and IntKind.u32 (num x0) (num x2))) (bits BinOp.and IntKind.u32 (num x1) (num x2))) % 4294967296 = num (big0 x0 + ((x0 &&& x1) ||| (x2 &&& (x0 ||| x1)))) := by
  rw [bits_xor, bits_xor, bits_and, bits_and, bits_and, bits_xor, bits_xor, num_add, maj_eq]
  rfl
theorem keep10 {w0 w1 w2 : World} {p0 p1 p2 p3 p5 p6 p7 pw pk : Addr} {u0 u1 u2 u3 u5 u6 u7 uw uk : Value} (k : Below w1.heap.size w1 w2)
    (h : Below w0.heap.size w0 w1 ∧ w1.cell? p0 = some u0 ∧ w1.cell? p1 = some u1 ∧ w1.cell? p2 = some u2 ∧ w1.cell? p3 = some u3 ∧ w1.cell? p5 = some u5 ∧ w1.cell? p6 = some u6 ∧ w1.cell? p7 = some u7 ∧ w1.cell? pw = some uw ∧ w1.cell? pk = some uk) :
    Below w0.heap.size w0 w2 ∧ w2.cell? p0 = some u0 ∧ w2.cell? p1 = some u1 ∧ w2.cell? p2 = some u2 ∧ w2.cell? p3 = some u3 ∧ w2.cell? p5 = some u5 ∧ w2.cell? p6 = some u6 ∧ w2.cell? p7 = some u7 ∧ w2.cell? pw = some uw ∧ w2.cell? pk = some uk := by
  obtain ⟨h, h0, h1, h2, h3, h5, h6, h7, hw, hk⟩ := h
  exact ⟨below_then h h.size k, ck k h0, ck k h1, ck k h2, ck k h3, ck k h5, ck k h6, ck k h7, ck k hw, ck k hk⟩
end Go.Proofs.Ytnjdighpdcabcaa
/- The reference's constants, handed back. -/
set_option linter.unusedVariables false
set_option linter.unusedSimpArgs false
namespace Go.Proofs.Ytnjdighpdcabcaa
open Go.RowKit Go.Proofs.YtnjdighpdcabcaaW.PrintWords Go.Proofs.YtnjdighpdcabcaaW.PrintLast

set_option maxRecDepth 100000 in
set_option maxHeartbeats 4000000 in
theorem constants_any (w : World) :
    Calls Try.prog 53 #[] w fun e w' => e = .returned (.agg (wcells K64)) ∧ Below w.heap.size w w' := by
  go_enter Try.func53, Try.ntmps53
  go_wp2_with (refine wpList_store_row rfl (.tmp 0) (.tmp 1) 85 rfl w.heap.size rfl (wcells K64) (by rfl) 85 (wcells (List.replicate 64 0#32)) (blk_new w _) (by rfl) (by rfl) (wcells_one _) rfl ?_)
  refine bodyPost_ret (results_row (P := Try.prog) (fn := Try.f53) (a := 0) (ty := 85) rfl _ w.heap.size rfl 85 (wcells K64) (0, 0) _ (setRow_heap _ _ (wcells (List.replicate 64 0#32)) _ _ _ (blk_new w _)) (by rfl) rfl (by rfl)) rfl ⟨rfl, below_setRow ((Below.refl _ _).alloc (Nat.le_refl _) _) (Nat.le_refl _) _⟩
end Go.Proofs.Ytnjdighpdcabcaa
