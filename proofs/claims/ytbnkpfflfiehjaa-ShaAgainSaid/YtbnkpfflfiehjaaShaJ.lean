/- Named: is a text 64 digits? -/
import Derived.Test.YtbnkpfflfiehjaaShaI
import Derived.Test.YtbnkpfflfiehjaaPShaTellsx3
set_option linter.unusedVariables false
set_option linter.unusedSimpArgs false
namespace Go.Proofs.Ytbnkpfflfiehjaa
open Go.RowKit Go.Proofs.YtbnkpfflfiehjaaW.PrintWords Go.Proofs.YtbnkpfflfiehjaaW.PrintLast

def hexN (x : Nat) : Bool := decide ((48 ≤ x ∧ x ≤ 57) ∨ (97 ≤ x ∧ x ≤ 102))
def named (s : ByteArray) : Bool := decide (s.size = 64) && s.data.toList.all fun b => hexN b.toNat

set_option maxRecDepth 1000000 in
theorem hexN_digits (x : Nat) (h : x < 128) : decide (0 ≤ Lib.indexByte DG.data.toList ((x : Int)).toNat.toUInt8) = hexN x := by
  have : ∀ x : Fin 128, decide (0 ≤ Lib.indexByte DG.data.toList ((x.val : Int)).toNat.toUInt8) = hexN x.val := by decide
  exact this ⟨x, h⟩
theorem hexN_hi (x : Nat) (h : 128 ≤ x) : hexN x = false := by
  unfold hexN
  exact decide_eq_false (by omega)
theorem contains_any (x : Nat) (hx : x ≤ 1114111) (w : World) :
    Calls Try.prog 25 #[.string DG, .int .i32 x] w fun e w' => e = .returned (.bool (hexN x)) ∧ Below w.heap.size w w' := by
  by_cases h : x < 128
  · refine (Try.strings_ContainsRune_ascii DG x w (by omega) (by omega)).mono ?_
    rintro e w' ⟨rfl, rfl⟩
    rw [hexN_digits x h]
    exact ⟨rfl, Below.refl _ _⟩
  · rw [hexN_hi x (by omega)]
    go_enter Try.func25, Try.ntmps25
    go_wp2_with fail
    refine (indexRune_hi x (by omega) hx w).mono ?_
    rintro e w' ⟨rfl, hB⟩
    have HB := Lib.hid hB
    clear hB
    go_wp2_with fail
    go_ret
    exact ⟨rfl, HB.out⟩
theorem pred_any (x : Nat) (hx : x ≤ 1114111) (w : World) :
    Calls Try.prog 24 #[.int .i32 x] w fun e w' => e = .returned (.bool (!hexN x)) ∧ Below w.heap.size w w' := by
  go_enter Try.func24, Try.ntmps24
  go_wp2_with fail
  refine (contains_any x hx w).mono ?_
  rintro e w' ⟨rfl, hB⟩
  have HB := Lib.hid hB
  clear hB
  go_wp2_with fail
  go_ret
  exact ⟨rfl, HB.out⟩

theorem decode_hi (s : ByteArray) (pos : Nat) (h : pos < s.size) (hb : 128 ≤ (s[pos]'h).toNat) : 128 ≤ (Utf8.decode s pos).1 := by
  have e : s.get! (pos + 0) = s[pos]'h := by
    show s.get! pos = _
    simp [ByteArray.get!, getElem!_pos, h]
    rfl
  unfold Utf8.decode
  have he : 128 ≤ Utf8.runeError := err_hi
  simp only [e]
  rw [if_neg (by omega)]
  split
  · split
    · simp only; omega
    · exact he
  · split
    · split
      · rename_i h1
        simp only [Bool.and_eq_true, decide_eq_true_eq] at h1
        simp only; omega
      · exact he
    · split
      · split
        · rename_i h1
          simp only [Bool.and_eq_true, decide_eq_true_eq] at h1
          simp only; omega
        · exact he
      · exact he
theorem idx_bad (s : ByteArray) : ∀ (f pos : Nat), s.size ≤ pos + f → (decide (0 ≤ Lib.idxFuncFrom (fun x => !hexN x) true s f pos)) = !((s.data.toList.drop pos).all fun b => hexN b.toNat)
  | 0, pos, h => by
    rw [List.drop_eq_nil_of_le (by simpa using h)]
    rfl
  | f + 1, pos, h => by
    by_cases hp : pos < s.size
    · have hd : s.data.toList.drop pos = (s[pos]'hp) :: s.data.toList.drop (pos + 1) := by
        rw [List.drop_eq_getElem_cons (by simpa using hp)]
        rfl
      rw [hd, List.all_cons, Lib.idxFuncFrom, if_pos hp]
      by_cases ha : (s[pos]'hp).toNat < 128
      · rw [decode_ascii s pos hp ha]
        simp only
        cases hx : hexN (s[pos]'hp).toNat
        · rw [Bool.not_false, if_pos rfl]
          simp
        · rw [Bool.not_true, if_neg (by decide), Bool.true_and]
          exact idx_bad s f (pos + 1) (by omega)
      · have h1 := decode_hi s pos hp (by omega)
        rw [hexN_hi _ h1, hexN_hi _ (by omega : 128 ≤ (s[pos]'hp).toNat), Bool.not_false, if_pos rfl]
        simp
    · rw [List.drop_eq_nil_of_le (by simpa using hp), Lib.idxFuncFrom_end _ _ _ _ _ hp]
      rfl

theorem named_any (s : ByteArray) (w : World) :
    Calls Try.prog 13 #[.string s] w fun e w' => e = .returned (.bool (named s)) ∧ Below w.heap.size w w' := by
  have eg : ∀ args w, (callFunc 24 args).run Try.prog w = .ok (.enter 24 args) w := enters_of Try.func24 (by kernel_rfl) rfl
  have hp : PredGrows Try.prog 24 #[] (fun x => !hexN x) w := fun W x hx _ => pred_any x hx W
  have hc := Try.strings_ContainsFunc_grows 24 #[] eg (fun x => !hexN x) s w hp
  have hi : decide (0 ≤ Lib.idxFunc (fun x => !hexN x) true s) = !(s.data.toList.all fun b => hexN b.toNat) := by
    have := idx_bad s s.size 0 (by omega)
    rw [List.drop_zero] at this
    exact this
  rw [hi] at hc
  obtain ⟨q, hq⟩ : ∃ q, q = s.data.toList.all fun b => hexN b.toNat := ⟨_, rfl⟩
  have e : named s = (decide (s.size = 64) && q) := by rw [hq]; rfl
  rw [e]
  rw [← hq] at hc
  have HC := Lib.hid hc
  clear hc hi hp eg hq e
  by_cases h64 : s.size = 64
  · have h1 : ((s.size : Int) = 64) := by omega
    go_enter Try.func13, Try.ntmps13
    go_wp2_with fail
    refine HC.out.mono ?_
    rintro e w' ⟨rfl, hB⟩
    have HB := Lib.hid hB
    clear hB
    go_wp2_with fail
    go_ret
    exact ⟨by simp [h64], HB.out⟩
  · have h1 : ¬ ((s.size : Int) = 64) := by omega
    go_enter Try.func13, Try.ntmps13
    go_wp2_with fail
    go_ret
    exact ⟨by simp [h64], Below.refl _ _⟩
end Go.Proofs.Ytbnkpfflfiehjaa
