/- Floats that are small whole numbers: their order, their sums with one. -/
import GoSem.Core.Float
import Ieee.Arith
import Derived.KernelRfl
set_option linter.unusedVariables false
set_option linter.unusedSimpArgs false
namespace Go.Proofs.Ytjclpepdjnffaaa
open Go
/-- The word of a whole number, in binary 64. -/
def fw (n : Nat) : Nat := Ieee.double.nearest false n 0
def infw : Nat := 9218868437227405312
/-- It stands for n. -/
def standsB (n : Nat) : Bool := match Ieee.double.read (fw n) with
  | .number s m p => !s && decide (p ≤ 0) && decide (m = n <<< (-p).toNat)
  | _ => false
theorem stands_all : (List.range 1300).all standsB = true := by kernel_rfl
theorem add_all : (List.range 1300).all (fun n => Ieee.double.add (fw n) (fw 1) == some (fw (n + 1))) = true := by kernel_rfl
theorem stands {n : Nat} (h : n < 1300) : ∃ m p, Ieee.double.read (fw n) = .number false m p ∧ p ≤ 0 ∧ m = n <<< (-p).toNat := by
  have := List.all_eq_true.1 stands_all n (List.mem_range.2 h)
  unfold standsB at this
  split at this
  · rename_i s m p e
    simp only [Bool.and_eq_true, Bool.not_eq_true', decide_eq_true_eq] at this
    obtain ⟨⟨rfl, h1⟩, h2⟩ := this
    exact ⟨m, p, e, h1, h2⟩
  · cases this
theorem fw_add {n : Nat} (h : n < 1300) : Ieee.double.add (fw n) (fw 1) = some (fw (n + 1)) := by
  have := List.all_eq_true.1 add_all n (List.mem_range.2 h)
  simpa using this
theorem fw_order {n m : Nat} (hn : n < 1300) (hm : m < 1300) : Ieee.double.order (fw n) (fw m) = some (compare n m) := by
  obtain ⟨x, p, e1, hp, rfl⟩ := stands hn
  obtain ⟨y, q, e2, hq, rfl⟩ := stands hm
  unfold Ieee.Format.order
  rw [e1, e2]
  simp only [Ieee.Datum.order, Ieee.signed, Bool.false_eq_true, if_false]
  congr 1
  have key : ∀ (k : Nat) (r b : Int), r ≤ 0 → b ≤ r → ((k <<< (-r).toNat) <<< (r - b).toNat) = k * 2 ^ (-b).toNat := by
    intro k r b hr hb
    rw [← Nat.shiftLeft_add, Nat.shiftLeft_eq]
    congr 2
    omega
  have hb1 : min p q ≤ p := by omega
  have hb2 : min p q ≤ q := by omega
  rw [key n p _ hp hb1, key m q _ hq hb2]
  have hpos : 0 < 2 ^ (-(min p q)).toNat := Nat.pow_pos (by decide)
  generalize 2 ^ (-(min p q)).toNat = c at hpos
  rw [Int.compare_eq_ite_lt, Nat.compare_eq_ite_lt]
  have h1 : ((n * c : Nat) : Int) < ((m * c : Nat) : Int) ↔ n < m := by
    rw [Int.ofNat_lt]
    exact Nat.mul_lt_mul_right hpos
  have h2 : ((m * c : Nat) : Int) < ((n * c : Nat) : Int) ↔ m < n := by
    rw [Int.ofNat_lt]
    exact Nat.mul_lt_mul_right hpos
  simp only [h1, h2]
theorem inf_read : Ieee.double.read infw = .infinity false := by kernel_rfl
theorem fw_inf {n : Nat} (hn : n < 1300) : Ieee.double.order (fw n) infw = some .lt := by
  obtain ⟨x, p, e1, hp, rfl⟩ := stands hn
  unfold Ieee.Format.order
  rw [e1, inf_read]
  rfl
theorem inf_fw {n : Nat} (hn : n < 1300) : Ieee.double.order infw (fw n) = some .gt := by
  obtain ⟨x, p, e1, hp, rfl⟩ := stands hn
  unfold Ieee.Format.order
  rw [e1, inf_read]
  rfl
theorem inf_inf : Ieee.double.order infw infw = some .eq := by kernel_rfl
theorem inf_add : Ieee.double.add infw (fw 1) = some infw := by kernel_rfl
theorem fw_zero : fw 0 = 0 := by kernel_rfl
theorem fw_one : fw 1 = 4607182418800017408 := by kernel_rfl
theorem fw_neg {n : Nat} (hn : n < 1300) : (Ieee.double.read (fw n)).neg = false := by
  obtain ⟨x, p, e1, hp, rfl⟩ := stands hn
  rw [e1]
  rfl
/-- Not above the greatest one: no infinity. -/
theorem fw_most {n : Nat} (hn : n < 1300) : Ieee.double.order (fw n) 9218868437227405311 = some .lt := by
  have := List.all_eq_true.1 (show (List.range 1300).all (fun n => Ieee.double.order (fw n) 9218868437227405311 == some .lt) = true by kernel_rfl) n (List.mem_range.2 hn)
  simpa using this
theorem inf_most : Ieee.double.order infw 9218868437227405311 = some .gt := by kernel_rfl
end Go.Proofs.Ytjclpepdjnffaaa
