/- What a name's digits say of the sum: plain laws for ShaNames and ShaAgain. -/
import Derived.Test.YtbnkpfflfiehjaaLaws02b
set_option linter.unusedVariables false
set_option linter.unusedSimpArgs false
namespace Go.Proofs.Ytbnkpfflfiehjaa
open Go.RowKit Go.Proofs.YtbnkpfflfiehjaaW.PrintWords Go.Proofs.YtbnkpfflfiehjaaW.PrintLast

theorem dig_inj (a b : Nat) (ha : a < 16) (hb : b < 16) (h : dig a = dig b) : a = b := by
  have : ∀ a b : Fin 16, dig a.val = dig b.val → a = b := by decide
  have := this ⟨a, ha⟩ ⟨b, hb⟩ h
  exact congrArg Fin.val this
theorem dig_hex (a : Nat) (ha : a < 16) : hexN (dig a).toNat = true := by
  have : ∀ a : Fin 16, hexN (dig a.val).toNat = true := by decide
  exact this ⟨a, ha⟩
theorem hexL_inj : ∀ (xs ys : List (BitVec 8)), xs.length = ys.length → hexL xs = hexL ys → xs = ys
  | [], [], _, _ => rfl
  | x :: xs, y :: ys, hl, h => by
    simp only [hexL, List.cons.injEq] at h
    obtain ⟨h1, h2, h3⟩ := h
    have e1 := dig_inj _ _ (by have := x.isLt; omega) (by have := y.isLt; omega) h1
    have e2 := dig_inj _ _ (by omega) (by omega) h2
    have : x = y := BitVec.eq_of_toNat_eq (by omega)
    rw [this, hexL_inj xs ys (by simpa using hl) h3]
theorem hexL_hex (xs : List (BitVec 8)) : (hexL xs).all (fun b => hexN b.toNat) = true := by
  induction xs with
  | nil => rfl
  | cons x xs ih =>
    have h1 := dig_hex (x.toNat / 16) (by have := x.isLt; omega)
    have h2 := dig_hex (x.toNat % 16) (by omega)
    simp only [hexL, List.all_cons, h1, h2, ih, Bool.and_self]
theorem sum_length (bs : List (BitVec 8)) : (sum bs).length = 32 := out_length _
theorem name_size (bs : List (BitVec 8)) : (name bs).size = 64 := by
  show (hexL (sum bs)).toArray.size = 64
  simp [hexL_length, sum_length]
theorem name_list (bs : List (BitVec 8)) : (name bs).data.toList = hexL (sum bs) := by simp [name]
theorem named_name (bs : List (BitVec 8)) : named (name bs) = true := by
  unfold named
  rw [name_size, name_list, hexL_hex]
  rfl
theorem name_eq_iff (a b : List (BitVec 8)) : name a = name b ↔ sum a = sum b := by
  constructor
  · intro h
    have : hexL (sum a) = hexL (sum b) := by rw [← name_list, ← name_list, h]
    exact hexL_inj _ _ (by rw [sum_length, sum_length]) this
  · intro h
    unfold name
    rw [h]
theorem named_bad (s : ByteArray) (b : UInt8) (hb : b ∈ s.data.toList) (h : hexN b.toNat = false) : named s = false := by
  unfold named
  rw [show (s.data.toList.all fun b => hexN b.toNat) = false from by
    rw [List.all_eq_false]
    exact ⟨b, hb, by simp [h]⟩]
  simp
theorem named_size (s : ByteArray) (h : s.size ≠ 64) : named s = false := by
  unfold named
  rw [decide_eq_false h]
  rfl
end Go.Proofs.Ytbnkpfflfiehjaa
