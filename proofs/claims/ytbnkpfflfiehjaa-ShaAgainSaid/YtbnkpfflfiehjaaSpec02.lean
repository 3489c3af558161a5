/- SHA-256 over words of 32 bits, in plain Lean; how the model's numbers are such words. -/
import Derived.Test.YtbnkpfflfiehjaaProg
import Derived.Test.YtbnkpfflfiehjaaWWords
import Derived.Test.YtbnkpfflfiehjaaWLast
import Derived.Test.YtbnkpfflfiehjaaRegion
import Derived.WalkSpells
import Derived.WalkLawsBesides
import Derived.Lib.Hide
set_option linter.unusedVariables false
set_option linter.unusedSimpArgs false
namespace Go.Proofs.Ytbnkpfflfiehjaa
open Go.RowKit Go.Proofs.YtbnkpfflfiehjaaW.PrintWords Go.Proofs.YtbnkpfflfiehjaaW.PrintLast

/-- A word as the model has it. -/
def num (x : BitVec 32) : Int := (x.toNat : Int)
theorem num_lt (x : BitVec 32) : 0 ≤ num x ∧ num x < 4294967296 := ⟨Int.natCast_nonneg _, by have := x.isLt; unfold num; omega⟩
theorem ofInt_num (x : BitVec 32) : BitVec.ofInt 32 (num x) = x := by
  apply BitVec.eq_of_toNat_eq
  rw [BitVec.toNat_ofInt, num]
  have := x.isLt
  omega
theorem wrap_num (x : BitVec 32) : IntKind.u32.wrap (num x) = num x := by
  have := num_lt x
  simp only [IntKind.wrap, IntKind.bits, IntKind.signed]
  simp
  omega
theorem bits_and (x y : BitVec 32) : bits .and .u32 (num x) (num y) = num (x &&& y) := by
  show IntKind.u32.wrap ((BitVec.ofInt 32 (num x) &&& BitVec.ofInt 32 (num y)).toNat : Int) = _
  rw [ofInt_num, ofInt_num]
  exact wrap_num _
theorem bits_or (x y : BitVec 32) : bits .or .u32 (num x) (num y) = num (x ||| y) := by
  show IntKind.u32.wrap ((BitVec.ofInt 32 (num x) ||| BitVec.ofInt 32 (num y)).toNat : Int) = _
  rw [ofInt_num, ofInt_num]
  exact wrap_num _
theorem bits_xor (x y : BitVec 32) : bits .xor .u32 (num x) (num y) = num (x ^^^ y) := by
  show IntKind.u32.wrap ((BitVec.ofInt 32 (num x) ^^^ BitVec.ofInt 32 (num y)).toNat : Int) = _
  rw [ofInt_num, ofInt_num]
  exact wrap_num _
theorem num_add (x y : BitVec 32) : (num x + num y) % 4294967296 = num (x + y) := by
  unfold num
  rw [BitVec.toNat_add]
  omega
theorem num_shr (x : BitVec 32) (n : Nat) : num x / 2 ^ n = num (x >>> n) := by
  unfold num
  rw [BitVec.toNat_ushiftRight, Nat.shiftRight_eq_div_pow]
  simp
theorem num_shl (x : BitVec 32) (n : Nat) : (num x * 2 ^ n) % 4294967296 = num (x <<< n) := by
  unfold num
  rw [BitVec.toNat_shiftLeft, Nat.shiftLeft_eq]
  simp

/-- Turned right. -/
def rotr (x : BitVec 32) (n : Nat) : BitVec 32 := (x >>> n) ||| (x <<< (32 - n))

theorem and31 (n : Nat) (h1 : 1 ≤ n) (h2 : n ≤ 31) : bits .and .u64 (IntKind.u64.wrap (-(n : Int))) 31 = ((32 - n : Nat) : Int) := by
  have : ∀ n : Fin 32, 1 ≤ n.val → bits .and .u64 (IntKind.u64.wrap (-(n.val : Int))) 31 = ((32 - n.val : Nat) : Int) := by decide
  exact this ⟨n, by omega⟩ h1

set_option maxHeartbeats 1000000 in
theorem rotate_any (x : BitVec 32) (n : Nat) (h1 : 1 ≤ n) (h2 : n ≤ 31) (w : World) :
    Calls Try.prog 30 #[.int .u32 (num x), .int .i64 (-(n : Int))] w fun e w' => e = .returned (.int .u32 (num (rotr x n))) ∧ w = w' := by
  have e2 := and31 n h1 h2
  obtain ⟨m, hm, hm1, hm2⟩ : ∃ m : Nat, m = 32 - n ∧ 1 ≤ m ∧ m ≤ 31 := ⟨_, rfl, by omega, by omega⟩
  rw [← hm] at e2
  go_enter Try.func30, Try.ntmps30
  go_wp2_with fail
  go_ret
  refine ⟨?_, rfl⟩
  rw [num_shl, num_shr, bits_or, show 32 - (32 - n) = n by omega, BitVec.or_comm]
  rfl

set_option maxHeartbeats 1000000 in
theorem right_any (x : BitVec 32) (n : Nat) (h1 : 1 ≤ n) (h2 : n ≤ 31) (w : World) :
    Calls Try.prog 26 #[.int .u32 (num x), .int .i64 n] w fun e w' => e = .returned (.int .u32 (num (rotr x n))) ∧ w = w' := by
  go_enter Try.func26, Try.ntmps26
  go_wp2_with fail
  refine (rotate_any x n h1 h2 _).mono ?_
  rintro e w' ⟨rfl, rfl⟩
  go_wp2_with fail
  go_ret
  exact ⟨rfl, rfl⟩

set_option maxHeartbeats 1000000 in
theorem turned_any (x : BitVec 32) (n : Nat) (h1 : 1 ≤ n) (h2 : n ≤ 31) (w : World) :
    Calls Try.prog 20 #[.int .u32 (num x), .int .i64 n] w fun e w' => e = .returned (.int .u32 (num (rotr x n))) ∧ Below w.heap.size w w' := by
  obtain ⟨m, hm, hm1, hm2⟩ : ∃ m : Nat, m = 32 - n ∧ 1 ≤ m ∧ m ≤ 31 := ⟨_, rfl, by omega, by omega⟩
  have e1 : wrap64 (32 - (n : Int)) = (m : Int) := by unfold wrap64; omega
  go_enter Try.func20, Try.ntmps20
  go_upto_region 1 with (fail)
  refine start_ (S := fun _ => True) (ds := [8]) (n := 9) #[false, false, false, false, false, false, false, false, false] rfl rfl rfl ?hS0 (fun hHeld => ?hrun)
  case hS0 => trivial
  case hrun =>
    refine pure_ (i := 0) (N := some 5) (v := ?_) (a' := ?_) #[true, false, false, false, false, false, false, false, false] rfl rfl (by kernel_rfl) (fun _ _ _ h => h) (Or.inl ⟨by rfl, ?_⟩) ?_ ?_
    rotate_left
    · intro w'
      go_simp
      first | done | with_reducible rfl
    rotate_left
    · simp only [Act.put, List.setIfInBounds_toArray, List.set_cons_zero, List.set_cons_succ, i64_w, i32_w]
      rfl
    refine pure_ (i := 1) (N := some 6) (v := ?_) (a' := ?_) #[true, true, false, false, false, false, false, false, false] rfl rfl (by kernel_rfl) (fun _ _ _ h => h) (Or.inl ⟨by rfl, ?_⟩) ?_ ?_
    rotate_left
    · intro w'
      go_simp
      first | done | with_reducible rfl
    rotate_left
    · simp only [Act.put, List.setIfInBounds_toArray, List.set_cons_zero, List.set_cons_succ, i64_w, i32_w]
      rfl
    refine pure_ (i := 2) (N := some 7) (v := ?_) (a' := ?_) #[true, true, true, false, false, false, false, false, false] rfl rfl (by kernel_rfl) (fun _ _ _ h => h) (Or.inl ⟨by rfl, ?_⟩) ?_ ?_
    rotate_left
    · intro w'
      go_simp
      first | done | with_reducible rfl
    rotate_left
    · simp only [Act.put, List.setIfInBounds_toArray, List.set_cons_zero, List.set_cons_succ, i64_w, i32_w]
      rfl
    refine pure_ (i := 3) (N := some 8) (v := ?_) (a' := ?_) #[true, true, true, true, false, false, false, false, false] rfl rfl (by kernel_rfl) (fun _ _ _ h => h) (Or.inl ⟨by rfl, ?_⟩) ?_ ?_
    rotate_left
    · intro w'
      go_simp
      first | done | with_reducible rfl
    rotate_left
    · simp only [Act.put, List.setIfInBounds_toArray, List.set_cons_zero, List.set_cons_succ, i64_w, i32_w]
      rfl
    refine pure_ (i := 4) (N := some 9) (v := ?_) (a' := ?_) #[true, true, true, true, true, false, false, false, false] rfl rfl (by kernel_rfl) (fun _ _ _ h => h) (Or.inl ⟨by rfl, ?_⟩) ?_ ?_
    rotate_left
    · intro w'
      go_simp
      first | done | with_reducible rfl
    rotate_left
    · simp only [Act.put, List.setIfInBounds_toArray, List.set_cons_zero, List.set_cons_succ, i64_w, i32_w]
      rfl
    refine pure_ (i := 5) (N := some 10) (v := ?_) (a' := ?_) #[true, true, true, true, true, true, false, false, false] rfl rfl (by kernel_rfl) (fun _ _ _ h => h) (Or.inl ⟨by rfl, ?_⟩) ?_ ?_
    rotate_left
    · intro w'
      go_simp
      first | done | with_reducible rfl
    rotate_left
    · simp only [Act.put, List.setIfInBounds_toArray, List.set_cons_zero, List.set_cons_succ, i64_w, i32_w]
      rfl
    refine pure_ (i := 6) (N := some 11) (v := ?_) (a' := ?_) #[true, true, true, true, true, true, true, false, false] rfl rfl (by kernel_rfl) (fun _ _ _ h => h) (Or.inl ⟨by rfl, ?_⟩) ?_ ?_
    rotate_left
    · intro w'
      go_simp
      first | done | with_reducible rfl
    rotate_left
    · simp only [Act.put, List.setIfInBounds_toArray, List.set_cons_zero, List.set_cons_succ, i64_w, i32_w]
      rfl
    refine pure_ (i := 7) (N := some 12) (v := ?_) (a' := ?_) #[true, true, true, true, true, true, true, true, false] rfl rfl (by kernel_rfl) (fun _ _ _ h => h) (Or.inl ⟨by rfl, ?_⟩) ?_ ?_
    rotate_left
    · intro w'
      go_simp
      first | done | with_reducible rfl
    rotate_left
    · simp only [Act.put, List.setIfInBounds_toArray, List.set_cons_zero, List.set_cons_succ, i64_w, i32_w]
      rfl
    refine tail_list 8 (t := [8]) (fuel := 0) rfl rfl rfl (by kernel_rfl) (by decide) ?_
    go_wp2_with fail
    go_ret
    refine ⟨?_, (Below.refl _ _).drew⟩
    rw [num_shl, num_shr, bits_or]
    rfl
end Go.Proofs.Ytbnkpfflfiehjaa
