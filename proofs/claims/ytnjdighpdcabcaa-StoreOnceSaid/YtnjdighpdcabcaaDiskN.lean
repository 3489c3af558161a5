/- Is a text a name of a file? -/
import Derived.Test.YtnjdighpdcabcaaDiskR
set_option linter.unusedVariables false
set_option linter.unusedSimpArgs false
namespace Go.Proofs.Ytnjdighpdcabcaa
open Go.RowKit Go.Proofs.YtnjdighpdcabcaaW.PrintWords Go.Proofs.YtnjdighpdcabcaaW.PrintLast

def letN (x : Nat) : Bool := decide ((48 ≤ x ∧ x ≤ 57) ∨ (97 ≤ x ∧ x ≤ 122) ∨ x = 45 ∨ x = 46)
def rightN (s : ByteArray) : Bool := decide (0 < s.size ∧ s.size ≤ 70) && s.data.toList.all fun b => letN b.toNat

set_option maxRecDepth 1000000 in
theorem letN_digits (x : Nat) (h : x < 128) : decide (0 ≤ Lib.indexByte DGL.data.toList ((x : Int)).toNat.toUInt8) = letN x := by
  have : ∀ x : Fin 128, decide (0 ≤ Lib.indexByte DGL.data.toList ((x.val : Int)).toNat.toUInt8) = letN x.val := by decide
  exact this ⟨x, h⟩
theorem letN_hi (x : Nat) (h : 128 ≤ x) : letN x = false := by
  unfold letN
  exact decide_eq_false (by omega)
theorem contains_anyL (x : Nat) (hx : x ≤ 1114111) (w : World) :
    Calls Try.prog 43 #[.string DGL, .int .i32 x] w fun e w' => e = .returned (.bool (letN x)) ∧ Below w.heap.size w w' := by
  by_cases h : x < 128
  · refine (Try.strings_ContainsRune_ascii DGL x w (by omega) (by omega)).mono ?_
    rintro e w' ⟨rfl, rfl⟩
    rw [letN_digits x h]
    exact ⟨rfl, Below.refl _ _⟩
  · rw [letN_hi x (by omega)]
    go_enter Try.func43, Try.ntmps43
    go_wp2_with fail
    refine (indexRune_hiL x (by omega) hx w).mono ?_
    rintro e w' ⟨rfl, hB⟩
    have HB := Lib.hid hB
    clear hB
    go_wp2_with fail
    go_ret
    exact ⟨rfl, HB.out⟩
theorem pred_anyL (x : Nat) (hx : x ≤ 1114111) (w : World) :
    Calls Try.prog 48 #[.int .i32 x] w fun e w' => e = .returned (.bool (!letN x)) ∧ Below w.heap.size w w' := by
  go_enter Try.func48, Try.ntmps48
  go_wp2_with fail
  refine (contains_anyL x hx w).mono ?_
  rintro e w' ⟨rfl, hB⟩
  have HB := Lib.hid hB
  clear hB
  go_wp2_with fail
  go_ret
  exact ⟨rfl, HB.out⟩

theorem decode_hiL (s : ByteArray) (pos : Nat) (h : pos < s.size) (hb : 128 ≤ (s[pos]'h).toNat) : 128 ≤ (Utf8.decode s pos).1 := by
  have e : s.get! (pos + 0) = s[pos]'h := by
    show s.get! pos = _
    simp [ByteArray.get!, getElem!_pos, h]
    rfl
  unfold Utf8.decode
  have he : 128 ≤ Utf8.runeError := err_hiL
  simp only [e]
  rw [if_neg (by omega)]
  split
  · split
    · simp only; omega
    · exact he
  · split
    · split
      · rename_i h1
        simp only [Bool.and_eq_true, decide_eq_true_eq] at h1
        simp only; omega
      · exact he
    · split
      · split
        · rename_i h1
          simp only [Bool.and_eq_true, decide_eq_true_eq] at h1
          simp only; omega
        · exact he
      · exact he
theorem idx_badL (s : ByteArray) : ∀ (f pos : Nat), s.size ≤ pos + f → (decide (0 ≤ Lib.idxFuncFrom (fun x => !letN x) true s f pos)) = !((s.data.toList.drop pos).all fun b => letN b.toNat)
  | 0, pos, h => by
    rw [List.drop_eq_nil_of_le (by simpa using h)]
    rfl
  | f + 1, pos, h => by
    by_cases hp : pos < s.size
    · have hd : s.data.toList.drop pos = (s[pos]'hp) :: s.data.toList.drop (pos + 1) := by
        rw [List.drop_eq_getElem_cons (by simpa using hp)]
        rfl
      rw [hd, List.all_cons, Lib.idxFuncFrom, if_pos hp]
      by_cases ha : (s[pos]'hp).toNat < 128
      · rw [decode_ascii s pos hp ha]
        simp only
        cases hx : letN (s[pos]'hp).toNat
        · rw [Bool.not_false, if_pos rfl]
          simp
        · rw [Bool.not_true, if_neg (by decide), Bool.true_and]
          exact idx_badL s f (pos + 1) (by omega)
      · have h1 := decode_hiL s pos hp (by omega)
        rw [letN_hi _ h1, letN_hi _ (by omega : 128 ≤ (s[pos]'hp).toNat), Bool.not_false, if_pos rfl]
        simp
    · rw [List.drop_eq_nil_of_le (by simpa using hp), Lib.idxFuncFrom_end _ _ _ _ _ hp]
      rfl

set_option maxRecDepth 100000 in
theorem right_any (s : ByteArray) (w : World) :
    Calls Try.prog 31 #[.string s] w fun e w' => e = .returned (.bool (rightN s)) ∧ Below w.heap.size w w' := by
  have eg : ∀ args w, (callFunc 48 args).run Try.prog w = .ok (.enter 48 args) w := enters_of Try.func48 (by kernel_rfl) rfl
  have hp : PredGrows Try.prog 48 #[] (fun x => !letN x) w := fun W x hx _ => pred_anyL x hx W
  have hc := Try.strings_ContainsFunc_grows 48 #[] eg (fun x => !letN x) s w hp
  have hi : decide (0 ≤ Lib.idxFunc (fun x => !letN x) true s) = !(s.data.toList.all fun b => letN b.toNat) := by
    have := idx_badL s s.size 0 (by omega)
    rw [List.drop_zero] at this
    exact this
  rw [hi] at hc
  obtain ⟨q, hq⟩ : ∃ q, q = s.data.toList.all fun b => letN b.toNat := ⟨_, rfl⟩
  have e : rightN s = (decide (0 < s.size ∧ s.size ≤ 70) && q) := by rw [hq]; rfl
  rw [e]
  rw [← hq] at hc
  have HC := Lib.hid hc
  clear hc hi hp eg hq e
  by_cases h0 : s = ByteArray.empty
  · subst h0
    go_enter Try.func31, Try.ntmps31
    go_wp2_with fail
    go_ret
    exact ⟨by simp, Below.refl _ _⟩
  · have hs : 0 < s.size := by
      rcases Nat.eq_zero_or_pos s.size with h | h
      · exact absurd (by cases s; simp [ByteArray.size] at h; subst h; rfl) h0
      · exact h
    have hne : s.toList.isEmpty = false := by
      rw [ByteArray.toList_eq, List.isEmpty_eq_false_iff]
      intro h
      have : s.data.toList.length = 0 := by rw [h]; rfl
      have h2 : s.data.toList.length = s.size := by rw [Array.length_toList]; rfl
      omega
    have HS := Lib.hid hs
    clear hs h0
    by_cases h64 : s.size ≤ 70
    · have h1 : ((s.size : Int) ≤ 70) := by omega
      go_enter Try.func31, Try.ntmps31
      go_wp2_with fail
      refine HC.out.mono ?_
      rintro e w' ⟨rfl, hB⟩
      have HB := Lib.hid hB
      clear hB
      go_wp2_with fail
      go_ret
      exact ⟨by simp [h64, HS.out], HB.out⟩
    · have h1 : ¬ ((s.size : Int) ≤ 70) := by omega
      go_enter Try.func31, Try.ntmps31
      go_wp2_with fail
      go_ret
      exact ⟨by simp [h64], Below.refl _ _⟩
end Go.Proofs.Ytnjdighpdcabcaa
