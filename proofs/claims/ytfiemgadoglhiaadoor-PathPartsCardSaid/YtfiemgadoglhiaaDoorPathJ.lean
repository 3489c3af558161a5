/- A part of a path: the program's part. -/
import Derived.Test.YtfiemgadoglhiaaDoorPathI
import Derived.Test.YtfiemgadoglhiaaDoorPathW2
set_option linter.unusedVariables false
set_option linter.unusedSimpArgs false
namespace Go.Proofs.YtfiemgadoglhiaaDoor
open Go.RowKit Go.Proofs.YtfiemgadoglhiaaDoorW.PrintWords Go.Proofs.YtfiemgadoglhiaaDoorW.PrintLast


set_option maxRecDepth 1000000 in
theorem letterN_digits (x : Nat) (h : x < 128) : decide (0 ≤ Lib.indexByte DG.data.toList ((x : Int)).toNat.toUInt8) = letterN x := by
  have : ∀ x : Fin 128, decide (0 ≤ Lib.indexByte DG.data.toList ((x.val : Int)).toNat.toUInt8) = letterN x.val := by decide
  exact this ⟨x, h⟩
theorem letterN_hi (x : Nat) (h : 128 ≤ x) : letterN x = false := by
  unfold letterN
  exact decide_eq_false (by omega)
theorem contains_any (x : Nat) (hx : x ≤ 1114111) (w : World) :
    Calls Tryd.prog 29 #[.string DG, .int .i32 x] w fun e w' => e = .returned (.bool (letterN x)) ∧ Below w.heap.size w w' := by
  by_cases h : x < 128
  · refine (Tryd.strings_ContainsRune_ascii DG x w (by omega) (by omega)).mono ?_
    rintro e w' ⟨rfl, rfl⟩
    rw [letterN_digits x h]
    exact ⟨rfl, Below.refl _ _⟩
  · rw [letterN_hi x (by omega)]
    go_enter Tryd.func29, Tryd.ntmps29
    go_wp2_with fail
    refine (indexRune_hi x (by omega) hx w).mono ?_
    rintro e w' ⟨rfl, hB⟩
    have HB := Lib.hid hB
    clear hB
    go_wp2_with fail
    go_ret
    exact ⟨rfl, HB.out⟩
theorem pred_any (x : Nat) (hx : x ≤ 1114111) (w : World) :
    Calls Tryd.prog 28 #[.int .i32 x] w fun e w' => e = .returned (.bool (!letterN x)) ∧ Below w.heap.size w w' := by
  go_enter Tryd.func28, Tryd.ntmps28
  go_wp2_with fail
  refine (contains_any x hx w).mono ?_
  rintro e w' ⟨rfl, hB⟩
  have HB := Lib.hid hB
  clear hB
  go_wp2_with fail
  go_ret
  exact ⟨rfl, HB.out⟩

theorem decode_hi (s : ByteArray) (pos : Nat) (h : pos < s.size) (hb : 128 ≤ (s[pos]'h).toNat) : 128 ≤ (Utf8.decode s pos).1 := by
  have e : s.get! (pos + 0) = s[pos]'h := by
    show s.get! pos = _
    simp [ByteArray.get!, getElem!_pos, h]
    rfl
  unfold Utf8.decode
  have he : 128 ≤ Utf8.runeError := err_hi
  simp only [e]
  rw [if_neg (by omega)]
  split
  · split
    · simp only; omega
    · exact he
  · split
    · split
      · rename_i h1
        simp only [Bool.and_eq_true, decide_eq_true_eq] at h1
        simp only; omega
      · exact he
    · split
      · split
        · rename_i h1
          simp only [Bool.and_eq_true, decide_eq_true_eq] at h1
          simp only; omega
        · exact he
      · exact he
theorem idx_bad (s : ByteArray) : ∀ (f pos : Nat), s.size ≤ pos + f → (decide (0 ≤ Lib.idxFuncFrom (fun x => !letterN x) true s f pos)) = !((s.data.toList.drop pos).all fun b => letterN b.toNat)
  | 0, pos, h => by
    rw [List.drop_eq_nil_of_le (by simpa using h)]
    rfl
  | f + 1, pos, h => by
    by_cases hp : pos < s.size
    · have hd : s.data.toList.drop pos = (s[pos]'hp) :: s.data.toList.drop (pos + 1) := by
        rw [List.drop_eq_getElem_cons (by simpa using hp)]
        rfl
      rw [hd, List.all_cons, Lib.idxFuncFrom, if_pos hp]
      by_cases ha : (s[pos]'hp).toNat < 128
      · rw [decode_ascii s pos hp ha]
        simp only
        cases hx : letterN (s[pos]'hp).toNat
        · rw [Bool.not_false, if_pos rfl]
          simp
        · rw [Bool.not_true, if_neg (by decide), Bool.true_and]
          exact idx_bad s f (pos + 1) (by omega)
      · have h1 := decode_hi s pos hp (by omega)
        rw [letterN_hi _ h1, letterN_hi _ (by omega : 128 ≤ (s[pos]'hp).toNat), Bool.not_false, if_pos rfl]
        simp
    · rw [List.drop_eq_nil_of_le (by simpa using hp), Lib.idxFuncFrom_end _ _ _ _ _ hp]
      rfl


theorem partOk_eq (l : List UInt8) : partOk 16 l = (!l.isEmpty && decide ((l.length : Int) ≤ 16) && !(l == [46]) && !(l == [46, 46]) && l.all fun b => letterN b.toNat) := by
  unfold partOk
  have e1 : decide (1 ≤ l.length) = !l.isEmpty := by cases l <;> simp
  have e2 : decide (l.length ≤ 16) = decide ((l.length : Int) ≤ 16) := by rw [decide_eq_decide]; omega
  have e3 : ∀ m : List UInt8, decide (l ≠ m) = !(l == m) := by intro m; rw [Bool.eq_iff_iff]; simp
  rw [e1, e2, e3, e3]
theorem ppart (s : ByteArray) (w : World) :
    Calls Tryd.prog 22 #[.string s] w fun e w' => e = .returned (.bool (partOk 16 (bl s))) ∧ Below w.heap.size w w' := by
  have eg : ∀ args w, (callFunc 28 args).run Tryd.prog w = .ok (.enter 28 args) w := enters_of Tryd.func28 (by kernel_rfl) rfl
  have hp : PredGrows Tryd.prog 28 #[] (fun x => !letterN x) w := fun W x hx _ => pred_any x hx W
  have hc := Tryd.strings_ContainsFunc_grows 28 #[] eg (fun x => !letterN x) s w hp
  have hi : decide (0 ≤ Lib.idxFunc (fun x => !letterN x) true s) = !((bl s).all fun b => letterN b.toNat) := by
    have := idx_bad s s.size 0 (by omega)
    rw [List.drop_zero] at this
    exact this
  rw [hi] at hc
  obtain ⟨q, hq⟩ : ∃ q, q = (bl s).all fun b => letterN b.toNat := ⟨_, rfl⟩
  obtain ⟨r, hr⟩ : ∃ r, r = partOk 16 (bl s) := ⟨_, rfl⟩
  have e : r = (!s.toList.isEmpty && decide ((s.size : Int) ≤ 16) && !(s.toList == [46]) && !(s.toList == [46, 46]) && q) := by
    have hl : s.toList = bl s := ByteArray.toList_eq s
    rw [hr, hq, hl]
    exact partOk_eq (bl s)
  rw [← hr]
  rw [← hq] at hc
  have HC := Lib.hid hc
  have HE := Lib.hid e
  clear hc hi hp eg hq e hr
  go_enter Tryd.func22, Tryd.ntmps22
  go_wp2_with fail
  refine HC.out.mono ?_
  rintro e w' ⟨rfl, hB⟩
  have HB := Lib.hid hB
  clear hB
  go_wp2_with fail
  all_goals go_ret
  all_goals
    refine ⟨?_, HB.out⟩
    rw [HE.out]
    show Ending.returned (Value.bool _) = Ending.returned (Value.bool _)
    congr 2
    first | (simp_all; done) | (simp_all; intros; omega)
end Go.Proofs.YtfiemgadoglhiaaDoor
