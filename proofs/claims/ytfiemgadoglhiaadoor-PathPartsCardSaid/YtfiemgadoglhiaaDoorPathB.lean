/- Bytes as lists; what the code of chapter 04 asks, as lists (no program in sight). -/
import Derived.Test.YtfiemgadoglhiaaDoorPathA
import Derived.Below
import Derived.Lib.LastIndexByte
import Derived.Lib.Bytealg
set_option linter.unusedVariables false
namespace Go.Proofs.YtfiemgadoglhiaaDoor
open Go

def bl (p : ByteArray) : List UInt8 := p.data.toList
def ba (l : List UInt8) : ByteArray := ⟨l.toArray⟩
theorem bl_ba (l : List UInt8) : bl (ba l) = l := rfl
theorem ba_bl (p : ByteArray) : ba (bl p) = p := rfl
theorem bl_inj {p q : ByteArray} : bl p = bl q ↔ p = q := ⟨fun h => by rw [← ba_bl p, h, ba_bl], fun h => by rw [h]⟩
theorem bl_size (p : ByteArray) : (bl p).length = p.size := rfl
theorem bl_append (p q : ByteArray) : bl (p ++ q) = bl p ++ bl q := by
  unfold bl
  rw [ByteArray.data_append, Array.toList_append]
theorem bl_extract (p : ByteArray) (i j : Nat) : bl (p.extract i j) = ((bl p).take j).drop i := by
  unfold bl
  rw [ByteArray.data_extract, Array.toList_extract, List.extract_eq_take_drop, List.drop_take]
theorem bl_get (p : ByteArray) (i : Nat) (h : i < p.size) : (bl p)[i]? = some (p[i]'h) := by
  obtain ⟨⟨l⟩⟩ := p
  exact List.getElem?_eq_getElem h
theorem splitS_step (l : List UInt8) : splitS l = if Lib.indexByte l 47 < 0 then [l] else l.take (Lib.indexByte l 47).toNat :: splitS (l.drop ((Lib.indexByte l 47).toNat + 1)) := by
  induction l with
  | nil => rfl
  | cons b l ih =>
    have hix : Lib.indexByte (b :: l) 47 = if b = 47 then 0 else if Lib.indexByte l 47 = -1 then -1 else Lib.indexByte l 47 + 1 := by
      rw [Lib.indexByte]
      simp
    rw [splitS]
    by_cases hb : b = 47
    · rw [if_pos hb] at hix ⊢
      rw [hix, if_neg (by decide)]
      rfl
    · rw [if_neg hb] at hix ⊢
      have hge := Lib.indexByte_ge l 47
      by_cases hn : Lib.indexByte l 47 = -1
      · rw [if_pos hn] at hix
        rw [hix, if_pos (by decide), ih, if_pos (by omega)]
      · rw [if_neg hn] at hix
        rw [hix, if_neg (by omega), ih, if_neg (by omega)]
        obtain ⟨k, hk⟩ : ∃ k : Nat, Lib.indexByte l 47 = k := ⟨(Lib.indexByte l 47).toNat, by omega⟩
        rw [hk, show ((k : Int) + 1).toNat = k + 1 by omega, show ((k : Int)).toNat = k by omega]
        rfl
theorem indexByte_lt (l : List UInt8) (c : UInt8) : Lib.indexByte l c < l.length := by
  induction l with
  | nil =>
    show (-1 : Int) < 0
    decide
  | cons b l ih =>
    rw [Lib.indexByte, List.length_cons]
    split
    · omega
    · split <;> omega
theorem take_last (l : List UInt8) (i : Nat) (h : l[i]? = some 47) : l = l.take i ++ 47 :: l.drop (i + 1) := by
  obtain ⟨hi, e⟩ := List.getElem?_eq_some_iff.1 h
  have := List.take_append_drop i l
  rw [List.drop_eq_getElem_cons hi, e] at this
  exact this.symm
/-- What stands ahead of the last place. -/
theorem parentOf_at (l : List UInt8) (i : Nat) (h : l[i]? = some 47) (hj : ∀ j, i < j → l[j]? ≠ some 47) : parentOf l = some (l.take i) := by
  have hl := take_last l i h
  obtain ⟨hi, _⟩ := List.getElem?_eq_some_iff.1 h
  rw [hl]
  have := parentOf_behind (l.take i) (l.drop (i + 1)) (by
    intro b hb e
    subst e
    obtain ⟨k, hk, e⟩ := List.getElem_of_mem hb
    apply hj (i + 1 + k) (by omega)
    rw [List.getElem_drop] at e
    rw [List.length_drop] at hk
    rw [List.getElem?_eq_getElem (by omega), e])
  rw [this]
  congr 1
  rw [List.take_append_of_le_length (by rw [List.length_take]; omega), List.take_take, Nat.min_self]
theorem parentOf_no (l : List UInt8) (h : ∀ j : Nat, l[j]? ≠ some 47) : parentOf l = none := by
  apply parentOf_none
  intro b hb e
  subst e
  obtain ⟨k, hk, e⟩ := List.getElem_of_mem hb
  exact h k (by rw [List.getElem?_eq_getElem hk, e])
/-- Within, as the code asks it: of the same length or longer, alike so far, and then a slash or the end. -/
theorem withinB_eq (p q : List UInt8) : withinB p q = (decide (q.length ≤ p.length) && decide (p.take q.length = q) && (decide (p.drop q.length = []) || decide ((p.drop q.length)[0]? = some 47))) := by
  have h1 : q.isPrefixOf p = (decide (q.length ≤ p.length) && decide (p.take q.length = q)) := by
    rw [Bool.eq_iff_iff, List.isPrefixOf_iff_prefix, Bool.and_eq_true, decide_eq_true_eq, decide_eq_true_eq]
    constructor
    · rintro ⟨t, rfl⟩
      simp
    · rintro ⟨_, h⟩
      exact ⟨p.drop q.length, by rw [← List.take_append_drop q.length p, h]; simp⟩
  unfold withinB
  rw [h1]
  by_cases hle : q.length ≤ p.length
  · have e : decide (p.length = q.length) = decide (p.drop q.length = []) := by
      rw [decide_eq_decide, List.drop_eq_nil_iff]
      omega
    rw [e, List.getElem?_drop, Nat.add_zero]
  · rw [decide_eq_false hle]
    simp
end Go.Proofs.YtfiemgadoglhiaaDoor
