/- SHA-256 over words of 32 bits, in plain Lean; how the model's numbers are such words. -/
import Derived.Test.YtnjdighpdcabcaaProg
import Derived.Test.YtnjdighpdcabcaaWWords
import Derived.Test.YtnjdighpdcabcaaWLast
import Derived.Test.YtnjdighpdcabcaaRegion
import Derived.WalkSpells
import Derived.WalkLawsBesides
import Derived.Lib.Hide
set_option linter.unusedVariables false
set_option linter.unusedSimpArgs false
namespace Go.Proofs.Ytnjdighpdcabcaa
open Go.RowKit Go.Proofs.YtnjdighpdcabcaaW.PrintWords Go.Proofs.YtnjdighpdcabcaaW.PrintLast

/-- A word as the model has it. -/
def num (x : BitVec 32) : Int := (x.toNat : Int)
theorem num_lt (x : BitVec 32) : 0 ≤ num x ∧ num x < 4294967296 := ⟨Int.natCast_nonneg _, by have := x.isLt; unfold num; omega⟩
theorem ofInt_num (x : BitVec 32) : BitVec.ofInt 32 (num x) = x := by
  apply BitVec.eq_of_toNat_eq
  rw [BitVec.toNat_ofInt, num]
  have := x.isLt
  omega
theorem wrap_num (x : BitVec 32) : IntKind.u32.wrap (num x) = num x := by
  have := num_lt x
  simp only [IntKind.wrap, IntKind.bits, IntKind.signed]
  simp
  omega
theorem bits_and (x y : BitVec 32) : bits .and .u32 (num x) (num y) = num (x &&& y) := by
  show IntKind.u32.wrap ((BitVec.ofInt 32 (num x) &&& BitVec.ofInt 32 (num y)).toNat : Int) = _
  rw [ofInt_num, ofInt_num]
  exact wrap_num _
theorem bits_or (x y : BitVec 32) : bits .or .u32 (num x) (num y) = num (x ||| y) := by
  show IntKind.u32.wrap ((BitVec.ofInt 32 (num x) ||| BitVec.ofInt 32 (num y)).toNat : Int) = _
  rw [ofInt_num, ofInt_num]
  exact wrap_num _
theorem bits_xor (x y : BitVec 32) : bits .xor .u32 (num x) (num y) = num (x ^^^ y) := by
  show IntKind.u32.wrap ((BitVec.ofInt 32 (num x) ^^^ BitVec.ofInt 32 (num y)).toNat : Int) = _
  rw [ofInt_num, ofInt_num]
  exact wrap_num _
theorem num_add (x y : BitVec 32) : (num x + num y) % 4294967296 = num (x + y) := by
  unfold num
  rw [BitVec.toNat_add]
  omega
theorem num_shr (x : BitVec 32) (n : Nat) : num x / 2 ^ n = num (x >>> n) := by
  unfold num
  rw [BitVec.toNat_ushiftRight, Nat.shiftRight_eq_div_pow]
  simp
theorem num_shl (x : BitVec 32) (n : Nat) : (num x * 2 ^ n) % 4294967296 = num (x <<< n) := by
  unfold num
  rw [BitVec.toNat_shiftLeft, Nat.shiftLeft_eq]
  simp

/-- Turned right. -/
def rotr (x : BitVec 32) (n : Nat) : BitVec 32 := (x >>> n) ||| (x <<< (32 - n))

theorem and31 (n : Nat) (h1 : 1 ≤ n) (h2 : n ≤ 31) : bits .and .u64 (IntKind.u64.wrap (-(n : Int))) 31 = ((32 - n : Nat) : Int) := by
  have : ∀ n : Fin 32, 1 ≤ n.val → bits .and .u64 (IntKind.u64.wrap (-(n.val : Int))) 31 = ((32 - n.val : Nat) : Int) := by decide
  exact this ⟨n, by omega⟩ h1

set_option maxHeartbeats 1000000 in
theorem rotate_any (x : BitVec 32) (n : Nat) (h1 : 1 ≤ n) (h2 : n ≤ 31) (w : World) :
    Calls Try.prog 87 #[.int .u32 (num x), .int .i64 (-(n : Int))] w fun e w' => e = .returned (.int .u32 (num (rotr x n))) ∧ w = w' := by
  have e2 := and31 n h1 h2
  obtain ⟨m, hm, hm1, hm2⟩ : ∃ m : Nat, m = 32 - n ∧ 1 ≤ m ∧ m ≤ 31 := ⟨_, rfl, by omega, by omega⟩
  rw [← hm] at e2
  go_enter Try.func87, Try.ntmps87
  go_wp2_with fail
  go_ret
  refine ⟨?_, rfl⟩
  rw [num_shl, num_shr, bits_or, show 32 - (32 - n) = n by omega, BitVec.or_comm]
  rfl

set_option maxHeartbeats 1000000 in
theorem right_anyS (x : BitVec 32) (n : Nat) (h1 : 1 ≤ n) (h2 : n ≤ 31) (w : World) :
    Calls Try.prog 73 #[.int .u32 (num x), .int .i64 n] w fun e w' => e = .returned (.int .u32 (num (rotr x n))) ∧ w = w' := by
  go_enter Try.func73, Try.ntmps73
  go_wp2_with fail
  refine (rotate_any x n h1 h2 _).mono ?_
  rintro e w' ⟨rfl, rfl⟩
  go_wp2_with fail
  go_ret
  exact ⟨rfl, rfl⟩

set_option maxHeartbeats 1000000 in
theorem turned_any (x : BitVec 32) (n : Nat) (h1 : 1 ≤ n) (h2 : n ≤ 31) (w : World) :
    Calls Try.prog 56 #[.int .u32 (num x), .int .i64 n] w fun e w' => e = .returned (.int .u32 (num (rotr x n))) ∧ Below w.heap.size w w' := by
  obtain ⟨m, hm, hm1, hm2⟩ : ∃ m : Nat, m = 32 - n ∧ 1 ≤ m ∧ m ≤ 31 := ⟨_, rfl, by omega, by omega⟩
  have e1 : wrap64 (32 - (n : Int)) = (m : Int) := by unfold wrap64; omega
  go_enter Try.func56, Try.ntmps56
  go_upto_region 1 with (fail)
  refine start_ (S := fun _ => True) (ds := [8]) (n := 9) #[false, false, false, false, false, false, false, false, false] rfl rfl rfl ?hS0 (fun hHeld => ?hrun)
  case hS0 => trivial
  case hrun =>
    refine pure_ (i := 0) (N := some 5) (v := ?_) (a' := ?_) #[true, false, false, false, false, false, false, false, false] rfl rfl (by kernel_rfl) (fun _ _ _ h => h) (Or.inl ⟨by rfl, ?_⟩) ?_ ?_
    rotate_left
    · intro w'
      go_simp
      first | done | with_reducible rfl
    rotate_left
    · simp only [Act.put, List.setIfInBounds_toArray, List.set_cons_zero, List.set_cons_succ, i64_w, i32_w]
      rfl
    refine pure_ (i := 1) (N := some 6) (v := ?_) (a' := ?_) #[true, true, false, false, false, false, false, false, false] rfl rfl (by kernel_rfl) (fun _ _ _ h => h) (Or.inl ⟨by rfl, ?_⟩) ?_ ?_
    rotate_left
    · intro w'
      go_simp
      first | done | with_reducible rfl
    rotate_left
    · simp only [Act.put, List.setIfInBounds_toArray, List.set_cons_zero, List.set_cons_succ, i64_w, i32_w]
      rfl
    refine pure_ (i := 2) (N := some 7) (v := ?_) (a' := ?_) #[true, true, true, false, false, false, false, false, false] rfl rfl (by kernel_rfl) (fun _ _ _ h => h) (Or.inl ⟨by rfl, ?_⟩) ?_ ?_
    rotate_left
    · intro w'
      go_simp
      first | done | with_reducible rfl
    rotate_left
    · simp only [Act.put, List.setIfInBounds_toArray, List.set_cons_zero, List.set_cons_succ, i64_w, i32_w]
      rfl
    refine pure_ (i := 3) (N := some 8) (v := ?_) (a' := ?_) #[true, true, true, true, false, false, false, false, false] rfl rfl (by kernel_rfl) (fun _ _ _ h => h) (Or.inl ⟨by rfl, ?_⟩) ?_ ?_
    rotate_left
    · intro w'
      go_simp
      first | done | with_reducible rfl
    rotate_left
    · simp only [Act.put, List.setIfInBounds_toArray, List.set_cons_zero, List.set_cons_succ, i64_w, i32_w]
      rfl
    refine pure_ (i := 4) (N := some 9) (v := ?_) (a' := ?_) #[true, true, true, true, true, false, false, false, false] rfl rfl (by kernel_rfl) (fun _ _ _ h => h) (Or.inl ⟨by rfl, ?_⟩) ?_ ?_
    rotate_left
    · intro w'
      go_simp
      first | done | with_reducible rfl
    rotate_left
    · simp only [Act.put, List.setIfInBounds_toArray, List.set_cons_zero, List.set_cons_succ, i64_w, i32_w]
      rfl
    refine pure_ (i := 5) (N := some 10) (v := ?_) (a' := ?_) #[true, true, true, true, true, true, false, false, false] rfl rfl (by kernel_rfl) (fun _ _ _ h => h) (Or.inl ⟨by rfl, ?_⟩) ?_ ?_
    rotate_left
    · intro w'
      go_simp
      first | done | with_reducible rfl
    rotate_left
    · simp only [Act.put, List.setIfInBounds_toArray, List.set_cons_zero, List.set_cons_succ, i64_w, i32_w]
      rfl
    refine pure_ (i := 6) (N := some 11) (v := ?_) (a' := ?_) #[true, true, true, true, true, true, true, false, false] rfl rfl (by kernel_rfl) (fun _ _ _ h => h) (Or.inl ⟨by rfl, ?_⟩) ?_ ?_
    rotate_left
    · intro w'
      go_simp
      first | done | with_reducible rfl
    rotate_left
    · simp only [Act.put, List.setIfInBounds_toArray, List.set_cons_zero, List.set_cons_succ, i64_w, i32_w]
      rfl
    refine pure_ (i := 7) (N := some 12) (v := ?_) (a' := ?_) #[true, true, true, true, true, true, true, true, false] rfl rfl (by kernel_rfl) (fun _ _ _ h => h) (Or.inl ⟨by rfl, ?_⟩) ?_ ?_
    rotate_left
    · intro w'
      go_simp
      first | done | with_reducible rfl
    rotate_left
    · simp only [Act.put, List.setIfInBounds_toArray, List.set_cons_zero, List.set_cons_succ, i64_w, i32_w]
      rfl
    refine tail_list 8 (t := [8]) (fuel := 0) rfl rfl rfl (by kernel_rfl) (by decide) ?_
    go_wp2_with fail
    go_ret
    refine ⟨?_, (Below.refl _ _).drew⟩
    rw [num_shl, num_shr, bits_or]
    rfl
end Go.Proofs.Ytnjdighpdcabcaa
/- SHA-256's compression in plain Lean; arrays of words in memory. -/
set_option linter.unusedVariables false
set_option linter.unusedSimpArgs false
namespace Go.Proofs.Ytnjdighpdcabcaa
open Go.RowKit Go.Proofs.YtnjdighpdcabcaaW.PrintWords Go.Proofs.YtnjdighpdcabcaaW.PrintLast

/-! ## the plain law -/
def sig0 (x : BitVec 32) : BitVec 32 := rotr x 7 ^^^ rotr x 18 ^^^ (x >>> 3)
def sig1 (x : BitVec 32) : BitVec 32 := rotr x 17 ^^^ rotr x 19 ^^^ (x >>> 10)
def big0 (x : BitVec 32) : BitVec 32 := rotr x 2 ^^^ rotr x 13 ^^^ rotr x 22
def big1 (x : BitVec 32) : BitVec 32 := rotr x 6 ^^^ rotr x 11 ^^^ rotr x 25
/-- Word i of 64 bytes. -/
def word (bs : List (BitVec 8)) (i : Nat) : BitVec 32 :=
  ((bs.getD (4 * i) 0).setWidth 32 <<< 24) ||| ((bs.getD (4 * i + 1) 0).setWidth 32 <<< 16) ||| ((bs.getD (4 * i + 2) 0).setWidth 32 <<< 8) ||| (bs.getD (4 * i + 3) 0).setWidth 32
/-- The first n words of the schedule. -/
def sched (bs : List (BitVec 8)) : Nat → List (BitVec 32)
  | 0 => []
  | n + 1 => let s := sched bs n
    s ++ [if n < 16 then word bs n else s.getD (n - 16) 0 + sig0 (s.getD (n - 15) 0) + s.getD (n - 7) 0 + sig1 (s.getD (n - 2) 0)]
theorem sched_length (bs : List (BitVec 8)) : ∀ n, (sched bs n).length = n
  | 0 => rfl
  | n + 1 => by simp [sched, sched_length bs n]
/-- A round. -/
def rnd (k w : BitVec 32) (x : List (BitVec 32)) : List (BitVec 32) :=
  let g := fun i => x.getD i 0
  let t := g 7 + big1 (g 4) + (g 6 ^^^ (g 4 &&& (g 5 ^^^ g 6))) + k + w
  let u := big0 (g 0) + ((g 0 &&& g 1) ||| (g 2 &&& (g 0 ||| g 1)))
  [t + u, g 0, g 1, g 2, g 3 + t, g 4, g 5, g 6]
def rnds (ks ws : List (BitVec 32)) (x : List (BitVec 32)) : Nat → List (BitVec 32)
  | 0 => x
  | n + 1 => rnd (ks.getD n 0) (ws.getD n 0) (rnds ks ws x n)
/-- The state behind a block. -/
def compress (ks : List (BitVec 32)) (v : List (BitVec 32)) (bs : List (BitVec 8)) : List (BitVec 32) :=
  List.zipWith (· + ·) v (rnds ks (sched bs 64) v 64)

/-! ## arrays in memory -/
def wcells (xs : List (BitVec 32)) : Array Value := (xs.map fun x => Value.int .u32 (num x)).toArray
def ArrAt (w : World) (b : Nat) (t : TypeId) (xs : List (BitVec 32)) : Prop := w.heap[b]? = some (.cells (wcells xs) t (0, 0))
theorem ArrAt.get {w : World} {b : Nat} {t : TypeId} {xs : List (BitVec 32)} (h : ArrAt w b t xs) (i : Nat) (hi : i < xs.length) :
    w.cell? ⟨b, i, none⟩ = some (.int .u32 (num (xs.getD i 0))) ∧ w.frozen? ⟨b, i, none⟩ = false := by
  refine ⟨?_, blk_frozen h i⟩
  have := blk_cell h i
  rw [this]
  simp [wcells, List.getElem?_eq_getElem hi, List.getD_eq_getElem?_getD]
theorem ArrAt.lt {w : World} {b : Nat} {t : TypeId} {xs : List (BitVec 32)} (h : ArrAt w b t xs) : b < w.heap.size := blk_lt h
theorem ArrAt.put {w : World} {b : Nat} {t : TypeId} {xs : List (BitVec 32)} (h : ArrAt w b t xs) (i : Nat) (y : BitVec 32) : ArrAt (w.setCell ⟨b, i, none⟩ (.int .u32 (num y))) b t (xs.set i y) := by
  have := blk_set h i (.int .u32 (num y))
  unfold ArrAt
  rw [this]
  simp [wcells, List.map_set]
theorem ArrAt.below {w w' : World} {b : Nat} {t : TypeId} {xs : List (BitVec 32)} (h : ArrAt w b t xs) (hB : Below w.heap.size w w') : ArrAt w' b t xs := blk_below h hB
theorem ArrAt.other {w : World} {b : Nat} {t : TypeId} {xs : List (BitVec 32)} (h : ArrAt w b t xs) (p : Addr) (hp : b ≠ p.block) (u : Value) : ArrAt (w.setCell p u) b t xs := (Below.heap_setCell w p u b hp).trans h

theorem ArrAt.from0 {w : World} {b : Nat} {t : TypeId} {xs cs ds : List (BitVec 32)} (h : ArrAt w b t xs) (e : xs = cs ++ ds) : ∀ j v, (cs.map fun x => Value.int .u32 (num x))[j]? = some v → w.cell? ((⟨b, 0, none⟩ : Addr).add j) = some v := by
  intro j v hj
  subst e
  rw [List.getElem?_map] at hj
  obtain ⟨x, hx, rfl⟩ := Option.map_eq_some_iff.1 hj
  have hl := (List.getElem?_eq_some_iff.1 hx).1
  have := (h.get j (by simp; omega)).1
  rw [List.getD_eq_getElem?_getD, List.getElem?_append_left hl, hx] at this
  have e : (⟨b, 0, none⟩ : Addr).add j = ⟨b, j, none⟩ := by
    unfold Addr.add
    split <;> simp_all
  rw [e, this]
  rfl
def byt (x : BitVec 8) : Int := (x.toNat : Int)
theorem byt_num (x : BitVec 8) : byt x = num (x.setWidth 32) := by
  unfold byt num
  rw [BitVec.toNat_setWidth]
  have := x.isLt
  omega

theorem wr_mul4 (i : Nat) (h : i < 1000) : wrap64 (4 * (i : Int)) = ((4 * i : Nat) : Int) := by unfold wrap64; omega
theorem wr_mul4' (i : Nat) (h : i < 1000) : IntKind.i64.wrap (4 * (i : Int)) = ((4 * i : Nat) : Int) := by rw [i64_w]; exact wr_mul4 i h
theorem wr_add' (j k : Nat) (h : j + k < 100000) : IntKind.i64.wrap ((j : Int) + (k : Int)) = ((j + k : Nat) : Int) := by rw [i64_w]; unfold wrap64; omega
theorem wr_add (j k : Nat) (h : j + k < 100000) : wrap64 ((j : Int) + (k : Int)) = (j : Int) + (k : Int) := by unfold wrap64; omega
theorem nat_add (j k : Nat) : ((j : Int) + (k : Int)).toNat = j + k := by omega
theorem wr_sub' (j k : Nat) (h : k ≤ j) (h2 : j < 100000) : IntKind.i64.wrap ((j : Int) - (k : Int)) = ((j - k : Nat) : Int) := by rw [i64_w]; unfold wrap64; omega
theorem take_set (xs : List (BitVec 32)) (i : Nat) (y : BitVec 32) (hi : i < xs.length) : (xs.set i y).take (i + 1) = xs.take i ++ [y] := by
  rw [List.take_succ_eq_append_getElem (by simpa using hi)]
  simp only [List.getElem_set_self]
  congr 1
  exact List.take_set_of_le (Nat.le_refl _)
theorem getD_take (xs : List (BitVec 32)) (i j : Nat) (h : j < i) : xs.getD j 0 = (xs.take i).getD j 0 := by
  simp [List.getD_eq_getElem?_getD, List.getElem?_take, h]
theorem num_mod (b : BitVec 32) : num b % 4294967296 = num b := by have := num_lt b; omega
theorem word_val (b0 b1 b2 b3 : BitVec 32) : bits BinOp.or IntKind.u32 (bits BinOp.or IntKind.u32 (bits BinOp.or IntKind.u32 (num b0 % 4294967296 * 16777216 % 4294967296) (num b1 % 4294967296 * 65536 % 4294967296)) (num b2 % 4294967296 * 256 % 4294967296)) (num b3 % 4294967296) = num (b0 <<< 24 ||| b1 <<< 16 ||| b2 <<< 8 ||| b3) := by
  have h0 := num_shl b0 24
  have h1 := num_shl b1 16
  have h2 := num_shl b2 8
  simp only [show (2 : Int) ^ 24 = 16777216 by decide, show (2 : Int) ^ 16 = 65536 by decide, show (2 : Int) ^ 8 = 256 by decide] at h0 h1 h2
  rw [num_mod, num_mod, num_mod, num_mod, h0, h1, h2, bits_or, bits_or, bits_or]
theorem eight (l : List (BitVec 32)) (h : l.length = 8) : ∃ v0 v1 v2 v3 v4 v5 v6 v7, l = [v0, v1, v2, v3, v4, v5, v6, v7] := by
  match l, h with
  | [v0, v1, v2, v3, v4, v5, v6, v7], _ => exact ⟨v0, v1, v2, v3, v4, v5, v6, v7, rfl⟩
theorem sched_val (y16 y15 y7 y2 : BitVec 32) : (num y16 + bits BinOp.xor IntKind.u32 (bits BinOp.xor IntKind.u32 (num (rotr y15 7)) (num (rotr y15 18))) (num y15 / 8) + num y7 + bits BinOp.xor IntKind.u32 (bits BinOp.xor IntKind.u32 (num (rotr y2 17)) (num (rotr y2 19))) (num y2 / 1024)) % 4294967296 = num (y16 + sig0 y15 + y7 + sig1 y2) := by
  have h0 := num_shr y15 3
  have h1 := num_shr y2 10
  simp only [show (2 : Int) ^ 3 = 8 by decide, show (2 : Int) ^ 10 = 1024 by decide] at h0 h1
  have hM : ∀ a b c d : Int, (a + b + c + d) % 4294967296 = (((a + b) % 4294967296 + c) % 4294967296 + d) % 4294967296 := by intros; omega
  rw [h0, h1, bits_xor, bits_xor, bits_xor, bits_xor, hM, num_add, num_add, num_add]
  rfl
theorem add3_mod (a b c : Int) : (a + b + c) % 4294967296 = ((a + b) % 4294967296 + c) % 4294967296 := by omega
theorem add5_mod (a b c d e : Int) : (a + b + c + d + e) % 4294967296 = ((((a + b) % 4294967296 + c) % 4294967296 + d) % 4294967296 + e) % 4294967296 := by omega
theorem t_val (x4 x5 x6 x7 k w : BitVec 32) : ((((num x7 + bits BinOp.xor IntKind.u32 (bits BinOp.xor IntKind.u32 (num (rotr x4 6)) (num (rotr x4 11))) (num (rotr x4 25))) % 4294967296 + bits BinOp.xor IntKind.u32 (num x6) (bits BinOp.and IntKind.u32 (num x4) (bits BinOp.xor IntKind.u32 (num x5) (num x6)))) % 4294967296 + num k) % 4294967296 + num w) % 4294967296 = num (x7 + big1 x4 + (x6 ^^^ (x4 &&& (x5 ^^^ x6))) + k + w) := by
  rw [bits_xor, bits_xor, bits_xor, bits_and, bits_xor, num_add, num_add, num_add, num_add]
  rfl
theorem u_val (x0 x1 x2 : BitVec 32) : (bits BinOp.xor IntKind.u32 (bits BinOp.xor IntKind.u32 (num (rotr x0 2)) (num (rotr x0 13))) (num (rotr x0 22)) + bits BinOp.or IntKind.u32 (bits BinOp.and IntKind.u32 (num x0) (num x1)) (bits BinOp.and IntKind.u32 (num x2) (bits BinOp.or IntKind.u32 (num x0) (num x1)))) % 4294967296 = num (big0 x0 + ((x0 &&& x1) ||| (x2 &&& (x0 ||| x1)))) := by
  rw [bits_xor, bits_xor, bits_and, bits_or, bits_and, bits_or, num_add]
  rfl
theorem ArrAt.below' {w w' : World} {b B : Nat} {t : TypeId} {xs : List (BitVec 32)} (h : ArrAt w b t xs) (hb : b < B) (hB : Below B w w') : ArrAt w' b t xs := (hB.block b hb).trans h
def sums (v y : List (BitVec 32)) (j : Nat) : List (BitVec 32) := List.zipWith (· + ·) (v.take j) (y.take j) ++ v.drop j
theorem lt8 (j : Nat) (h : j < 8) : j = 0 ∨ j = 1 ∨ j = 2 ∨ j = 3 ∨ j = 4 ∨ j = 5 ∨ j = 6 ∨ j = 7 := by omega
theorem sums_getD (v y : List (BitVec 32)) (j : Nat) (hv : v.length = 8) (hy : y.length = 8) (hj : j < 8) : (sums v y j).getD j 0 = v.getD j 0 := by
  obtain ⟨_, _, _, _, _, _, _, _, rfl⟩ := eight v hv
  obtain ⟨_, _, _, _, _, _, _, _, rfl⟩ := eight y hy
  rcases lt8 j hj with rfl | rfl | rfl | rfl | rfl | rfl | rfl | rfl <;> rfl
theorem sums_set (v y : List (BitVec 32)) (j : Nat) (hv : v.length = 8) (hy : y.length = 8) (hj : j < 8) : (sums v y j).set j (v.getD j 0 + y.getD j 0) = sums v y (j + 1) := by
  obtain ⟨_, _, _, _, _, _, _, _, rfl⟩ := eight v hv
  obtain ⟨_, _, _, _, _, _, _, _, rfl⟩ := eight y hy
  rcases lt8 j hj with rfl | rfl | rfl | rfl | rfl | rfl | rfl | rfl <;> rfl
theorem sums_length (v y : List (BitVec 32)) (j : Nat) (hv : v.length = 8) (hy : y.length = 8) (hj : j ≤ 8) : (sums v y j).length = 8 := by
  simp [sums, hv, hy]; omega
theorem sums_8 (v y : List (BitVec 32)) (hv : v.length = 8) (hy : y.length = 8) : sums v y 8 = List.zipWith (· + ·) v y := by
  obtain ⟨_, _, _, _, _, _, _, _, rfl⟩ := eight v hv
  obtain ⟨_, _, _, _, _, _, _, _, rfl⟩ := eight y hy
  rfl
theorem rnds_length (ks xs v : List (BitVec 32)) (hv : v.length = 8) : ∀ n, (rnds ks xs v n).length = 8
  | 0 => hv
  | n + 1 => rfl
theorem byte_at {w w' : World} {A : Option Addr} {bs : List (BitVec 8)} (h : Kd.C (Kd.int .u8) w A 64 (bs.map byt)) (hl : bs.length = 64) (hB : Below w.heap.size w w') (j : Nat) (hj : j < 64) :
    ∃ ad, A = some ad ∧ w'.cell? (ad.add j) = some (.int .u8 (byt (bs.getD j 0))) := by
  obtain ⟨ad, e, hc⟩ := (Kd.C_below h hB).2.2 (by omega)
  obtain ⟨c, _, hK, hcell⟩ := hc j (byt (bs.getD j 0)) (by rw [List.getElem?_map, List.getElem?_eq_getElem (by omega), List.getD_eq_getElem?_getD, List.getElem?_eq_getElem (by omega)]; rfl)
  obtain rfl : c = [.int .u8 (byt (bs.getD j 0))] := hK
  have := hcell 0 _ rfl
  exact ⟨ad, e, by simpa [Kd.int, Kd.scalar] using this⟩

end Go.Proofs.Ytnjdighpdcabcaa
