/- Walks of chapter 04: Parent; the reference's Parent, Within, Apart, Moved. -/
import Derived.Test.YtfiemgadoglhiaaDoorPathW1
set_option linter.unusedVariables false
set_option linter.unusedSimpArgs false
namespace Go.Proofs.YtfiemgadoglhiaaDoor
open Go.RowKit

/-- What Parent answers. -/
def parentV (p : ByteArray) : Value := match parentOf (bl p) with
  | some l => .tuple #[.string (ba l), .bool true]
  | none => .tuple #[.string ⟨#[]⟩, .bool false]
theorem parentV_no (p : ByteArray) (h : ∀ j (hj : j < p.size), p[j]'hj ≠ 47) : parentV p = .tuple #[.string ⟨#[]⟩, .bool false] := by
  unfold parentV
  rw [parentOf_no (bl p) (fun j e => by
    obtain ⟨hj, _⟩ := List.getElem?_eq_some_iff.1 e
    have hj' : j < p.size := hj
    rw [bl_get p j hj'] at e
    exact h j hj' (Option.some.inj e))]
theorem parentV_at (p : ByteArray) (i : Nat) (hi : i < p.size) (h : p[i]'hi = 47) (hj : ∀ j (hj : j < p.size), i < j → p[j]'hj ≠ 47) : parentV p = .tuple #[.string (p.extract 0 i), .bool true] := by
  unfold parentV
  rw [parentOf_at (bl p) i (by rw [bl_get p i hi, h]) (fun j hij e => by
    obtain ⟨hj1, _⟩ := List.getElem?_eq_some_iff.1 e
    have hj' : j < p.size := hj1
    rw [bl_get p j hj'] at e
    exact hj j hj' hij (Option.some.inj e))]
  have e : ba ((bl p).take i) = p.extract 0 i := by
    rw [← bl_inj, bl_ba, bl_extract, List.drop_zero]
  simp only [e]
theorem at_bang (s : ByteArray) (j : Nat) (h : j < s.size) : s.data[j]! = s[j]'h := by
  obtain ⟨⟨l⟩⟩ := s
  have h' : j < l.length := h
  show l.toArray[j]! = l[j]
  simp [h']
theorem toNat47 (b : UInt8) : ((b.toNat : Nat) : Int) = 47 ↔ b = 47 := by
  constructor
  · intro h
    exact UInt8.toNat_inj.1 (by show b.toNat = 47; omega)
  · rintro rfl
    rfl
set_option maxRecDepth 100000 in
theorem pparent (p : ByteArray) (w : World) (h1 : p.size ≤ 140737488351232) :
    Calls Tryd.prog 10 #[.string p] w fun e w' => e = .returned (parentV p) ∧ Below w.heap.size w w' := by
  rcases Lib.lastIndexByte_spec p 47 with ⟨hv, hn⟩ | ⟨i, hi, hv, h47, hn⟩
  · rw [parentV_no p (fun j hj e => hn j hj (by rw [at_bang p j hj, e]; rfl))]
    clear hn
    go_enter Tryd.func10, Tryd.ntmps10
    go_wp2_with fail
    refine (Tryd.strings_LastIndexByte p 47 (by omega) w).mono ?_
    rw [hv]
    rintro e w' ⟨rfl, rfl⟩
    go_wp2_with fail
    go_ret2
    exact ⟨rfl, Below.refl _ _⟩
  · rw [parentV_at p i hi ((toNat47 _).1 (by rw [← at_bang p i hi]; exact h47)) (fun j hj hij e => hn j hij hj (by rw [at_bang p j hj, e]; rfl))]
    clear hn h47
    go_enter Tryd.func10, Tryd.ntmps10
    go_wp2_with fail
    refine (Tryd.strings_LastIndexByte p 47 (by omega) w).mono ?_
    rw [hv]
    rintro e w' ⟨rfl, rfl⟩
    have h2 : ¬ ((i : Int) < 0) := by omega
    have h3 : (i : Int) ≤ (p.size : Int) := by omega
    clear hv
    go_wp2_with fail
    go_ret2
    exact ⟨rfl, Below.refl _ _⟩
set_option maxRecDepth 100000 in
theorem rparent (p : ByteArray) (w : World) (h1 : p.size ≤ 140737488351232) :
    Calls Tryd.prog 11 #[.string p] w fun e w' => e = .returned (parentV p) ∧ Below w.heap.size w w' := by
  obtain ⟨n, hn⟩ : ∃ n, n = p.size := ⟨_, rfl⟩
  have HN := Lib.hid hn.symm
  obtain ⟨r, hr⟩ : ∃ r, r = parentV p := ⟨_, rfl⟩
  rw [← hr]
  have HR := Lib.hid hr
  clear hr
  go_enter Tryd.func11, Tryd.ntmps11
  go_wp2_with fail
  go_loopw [4] (fun vi wr => ∃ k : Nat, k ≤ n ∧ vi = .int .i64 ((k : Int) - 1) ∧ (∀ j (hj : j < p.size), k ≤ j → p[j]'hj ≠ 47) ∧ wr = w) (fun vi _ => (intOf vi + 1).toNat)
  case atStart => exact ⟨n, Nat.le_refl _, by rw [hn], fun j hj hk => by rw [HN.out] at hj; omega, rfl⟩
  case round =>
    obtain ⟨k, hk, rfl, hj, rfl⟩ := hrel
    have HJ := Lib.hid hj
    clear hj
    cases k with
    | zero =>
      go_wp2_with fail
      go_ret2
      refine ⟨?_, Below.refl _ _⟩
      rw [HR.out, parentV_no p (fun j hj => HJ.out j hj (Nat.zero_le _))]
      rfl
    | succ k =>
      have e : ((k + 1 : Nat) : Int) - 1 = (k : Int) := by omega
      rw [e]
      have hkp : k < p.size := by rw [HN.out]; omega
      have hkp1 : (k : Int) < (p.size : Int) := by omega
      have hkp2 : (k : Int) ≤ (p.size : Int) := by omega
      have hk0 : (0 : Int) ≤ (k : Int) := by omega
      by_cases h47 : p[k]'hkp = 47
      · have h47' : (((p[k]'hkp).toNat : Int) = 47) := (toNat47 _).2 h47
        have HV := Lib.hid (HR.out.trans (parentV_at p k hkp h47 (fun j hj hij => HJ.out j hj (by omega))))
        clear h47 e HR HJ
        go_wp2_with fail
        go_ret2
        exact ⟨by rw [HV.out]; rfl, Below.refl _ _⟩
      · have h47' : ¬ (((p[k]'hkp).toNat : Int) = 47) := fun h => h47 ((toNat47 _).1 h)
        have HK := Lib.hid h47
        clear h47 e
        go_wp2_with fail
        refine ⟨⟨k, by omega, by go_num, fun j hj hij => ?_, trivial⟩, by first | (simp [intOf]; done) | (simp [intOf]; omega)⟩
        by_cases hjk : j = k
        · subst hjk
          exact HK.out
        · exact HJ.out j hj (by omega)
theorem within_self (p : ByteArray) : withinB (bl p) (bl p) = true := (withinB_iff _ _).2 (within_refl _)
theorem ext_bl (p q : ByteArray) (h : q.size ≤ p.size) : p.extract 0 q.size = q ↔ (bl p).take (bl q).length = bl q := by
  rw [← bl_inj, bl_extract, List.drop_zero, bl_size]
theorem within_long (p q : ByteArray) (h : q.size < p.size) : withinB (bl p) (bl q) = (decide (p.extract 0 q.size = q) && decide (p[q.size]'h = 47)) := by
  rw [withinB_eq, decide_eq_true (by rw [bl_size, bl_size]; omega), Bool.true_and]
  have e1 : decide ((bl p).take (bl q).length = bl q) = decide (p.extract 0 q.size = q) := by
    rw [decide_eq_decide]
    exact (ext_bl p q (by omega)).symm
  have e2 : decide ((bl p).drop (bl q).length = []) = false := by
    rw [decide_eq_false_iff_not, List.drop_eq_nil_iff, bl_size, bl_size]
    omega
  have e3 : decide (((bl p).drop (bl q).length)[0]? = some 47) = decide (p[q.size]'h = 47) := by
    rw [List.getElem?_drop, Nat.add_zero, bl_size, bl_get p q.size h, decide_eq_decide]
    simp
  rw [e1, e2, e3, Bool.false_or]
theorem within_short (p q : ByteArray) (h : ¬ q.size < p.size) (hne : p ≠ q) : withinB (bl p) (bl q) = false := by
  rw [Bool.eq_false_iff]
  intro hw
  obtain ⟨r, hr, _⟩ := (withinB_iff _ _).1 hw
  have hl := congrArg List.length hr
  rw [List.length_append, bl_size, bl_size] at hl
  have : r = [] := List.eq_nil_of_length_eq_zero (by omega)
  rw [this, List.append_nil] at hr
  exact hne (bl_inj.1 hr)
theorem toList_bl (p q : ByteArray) : p.toList = q.toList ↔ p = q := by
  rw [ByteArray.toList_eq, ByteArray.toList_eq]
  exact bl_inj
set_option maxRecDepth 100000 in
theorem rwithin (p q : ByteArray) (w : World) (h1 : p.size ≤ 140737488351232) (h2 : q.size ≤ 140737488351232) :
    Calls Tryd.prog 17 #[.string p, .string q] w fun e w' => e = .returned (.bool (withinB (bl p) (bl q))) ∧ Below w.heap.size w w' := by
  obtain ⟨r, hr⟩ : ∃ r, r = withinB (bl p) (bl q) := ⟨_, rfl⟩
  rw [← hr]
  by_cases he : p = q
  · have h : r = true := by rw [hr, he]; exact within_self q
    subst h
    have e1 : p.toList = q.toList := by rw [he]
    have e2 : (p.toList == q.toList) = true := by rw [beq_iff_eq]; exact e1
    clear hr he
    go_enter Tryd.func17, Tryd.ntmps17
    go_wp2_with fail
    go_ret
    exact ⟨rfl, Below.refl _ _⟩
  · have e1 : ¬ p.toList = q.toList := fun h => he ((toList_bl _ _).1 h)
    have e2 : (p.toList == q.toList) = false := by rw [beq_eq_false_iff_ne]; exact e1
    by_cases hl : q.size < p.size
    · have hr' := hr.trans (within_long p q hl)
      have HR := Lib.hid hr'
      have l1 : (q.size : Int) < (p.size : Int) := by omega
      have l2 : (q.size : Int) ≤ (p.size : Int) := by omega
      have l3 : (0 : Int) ≤ (q.size : Int) := by omega
      clear hr hr' he
      by_cases hx : p.extract 0 q.size = q
      · have x1 : (p.extract 0 q.size).toList = q.toList := by rw [hx]
        have x2 : ((p.extract 0 q.size).toList == q.toList) = true := by rw [beq_iff_eq]; exact x1
        have hr2 := HR.out
        rw [decide_eq_true hx, Bool.true_and] at hr2
        have HR2 := Lib.hid hr2
        clear hx HR hr2
        go_enter Tryd.func17, Tryd.ntmps17
        go_wp2_with fail
        all_goals go_ret
        all_goals exact ⟨by rw [HR2.out]; simp [beq47], Below.refl _ _⟩
      · have x1 : ¬ (p.extract 0 q.size).toList = q.toList := fun h => hx ((toList_bl _ _).1 h)
        have x2 : ((p.extract 0 q.size).toList == q.toList) = false := by rw [beq_eq_false_iff_ne]; exact x1
        have hr2 := HR.out
        rw [decide_eq_false hx, Bool.false_and] at hr2
        subst hr2
        clear hx HR
        go_enter Tryd.func17, Tryd.ntmps17
        go_wp2_with fail
        go_ret
        exact ⟨rfl, Below.refl _ _⟩
    · have h := hr.trans (within_short p q hl he)
      subst h
      have l1 : ¬ (q.size : Int) < (p.size : Int) := by omega
      clear hr he
      go_enter Tryd.func17, Tryd.ntmps17
      go_wp2_with fail
      go_ret
      exact ⟨rfl, Below.refl _ _⟩
theorem rapart (p q : ByteArray) (w : World) (h1 : p.size ≤ 140737488351232) (h2 : q.size ≤ 140737488351232) :
    Calls Tryd.prog 19 #[.string p, .string q] w fun e w' => e = .returned (.bool (!withinB (bl p) (bl q) && !withinB (bl q) (bl p))) ∧ Below w.heap.size w w' := by
  obtain ⟨r, hr⟩ : ∃ r, r = withinB (bl p) (bl q) := ⟨_, rfl⟩
  obtain ⟨s, hs⟩ : ∃ s, s = withinB (bl q) (bl p) := ⟨_, rfl⟩
  have HP := Lib.hid (fun w => rwithin p q w h1 h2)
  have HQ := Lib.hid (fun w => rwithin q p w h2 h1)
  rw [← hr] at HP ⊢
  rw [← hs] at HQ ⊢
  clear hr hs
  go_enter Tryd.func19, Tryd.ntmps19
  go_wp2_with fail
  refine (HP.out w).mono ?_
  rintro e w1 ⟨rfl, hB⟩
  have HB := Lib.hid hB
  clear hB
  cases r with
  | true =>
    go_wp2_with fail
    go_ret
    exact ⟨rfl, HB.out⟩
  | false =>
    go_wp2_with fail
    refine (HQ.out w1).mono ?_
    rintro e w2 ⟨rfl, hB⟩
    have HB2 := Lib.hid (hB.mono HB.out.size)
    clear hB
    go_wp2_with fail
    go_ret
    exact ⟨by simp, HB.out.trans HB2.out⟩
theorem rmoved (p q to : ByteArray) (w : World) (h1 : p.size ≤ 140737488351232) (h3 : q.size ≤ 140737488351232) (h2 : to.size ≤ 140737488351232) :
    Calls Tryd.prog 13 #[.string p, .string q, .string to] w fun e w' => e = .returned (movedV p q to) ∧ Below w.heap.size w w' := by
  have hsz := within_size p q
  unfold movedV
  obtain ⟨r, hr⟩ : ∃ r, r = withinB (bl p) (bl q) := ⟨_, rfl⟩
  have HP := Lib.hid (fun w => rwithin p q w h1 h3)
  rw [← hr] at HP hsz ⊢
  clear hr
  go_enter Tryd.func13, Tryd.ntmps13
  go_wp2_with fail
  refine (HP.out w).mono ?_
  rintro e w1 ⟨rfl, hB⟩
  have HB := Lib.hid hB
  clear hB
  cases r with
  | false =>
    go_wp2_with fail
    go_ret2
    exact ⟨rfl, HB.out⟩
  | true =>
    have hq := hsz rfl
    have hq1 : (q.size : Int) ≤ (p.size : Int) := by omega
    have hl : ¬ 9223372036854775807 < to.size + (p.extract q.size p.size).size := by rw [ByteArray.size_extract]; omega
    clear hsz
    go_wp2_with fail
    go_ret2
    exact ⟨rfl, HB.out⟩
end Go.Proofs.YtfiemgadoglhiaaDoor
