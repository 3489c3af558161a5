/- ShaNames' contract: two have one name just if they have one sum; another text is none. -/
import Derived.Test.YtbnkpfflfiehjaaLaws02c
import Derived.Test.YtbnkpfflfiehjaaLaws02d
set_option linter.unusedVariables false
set_option linter.unusedSimpArgs false
namespace Go.Proofs.Ytbnkpfflfiehjaa
open Go.RowKit Go.Proofs.YtbnkpfflfiehjaaW.PrintWords Go.Proofs.YtbnkpfflfiehjaaW.PrintLast

theorem name_n (n cp : Nat) (A : Option Addr) (bs : List (BitVec 8)) (w : World) (hn : n = bs.length)
    (hb : Kd.C (Kd.int .u8) w A n (bs.map byt)) (hc : n ≤ cp) (hl : n < 1000000000) :
    Calls Try.prog 11 #[.slice A n cp] w fun e w' => e = .returned (.string (name bs)) ∧ Below w.heap.size w w' := by
  subst hn
  exact name_any cp A bs w hb hc hl
theorem toList_eq (x y : ByteArray) : (x.toList == y.toList) = decide (x = y) := by
  by_cases h : x = y
  · subst h; simp
  · rw [decide_eq_false h, ByteArray.toList_eq, ByteArray.toList_eq, beq_eq_false_iff_ne]
    intro e
    apply h
    obtain ⟨⟨x⟩⟩ := x
    obtain ⟨⟨y⟩⟩ := y
    simp at e
    subst e
    rfl

set_option maxRecDepth 100000 in
set_option maxHeartbeats 8000000 in
theorem names_law (w : World) (x : List Int) (A : Option Addr) (n0 c : Nat) (h : (Kd.slice 5 (Kd.int .u8)).K w x [.slice A n0 c]) (g : goodB x)
    (y : List Int) (B : Option Addr) (m0 d : Nat) (h2 : (Kd.slice 5 (Kd.int .u8)).K w y [.slice B m0 d]) (g2 : goodB y) (ai : Int) (wa : (Lit.int .u8 ai).wf = true) :
    Calls Try.prog 6 #[.slice A n0 c, .slice B m0 d, .int .u8 ai] w fun e w' => e = .returned (.bool true) ∧ Below w.heap.size w w' := by
  obtain ⟨A', c', e, l, hr⟩ := h
  obtain ⟨rfl, rfl, rfl⟩ : A = A' ∧ n0 = x.length ∧ c = c' := by injection e with e _; injection e with a b c; exact ⟨a, b, c⟩
  obtain ⟨B', d', e2, l2, hr2⟩ := h2
  obtain ⟨rfl, rfl, rfl⟩ : B = B' ∧ m0 = y.length ∧ d = d' := by injection e2 with e _; injection e with a b c; exact ⟨a, b, c⟩
  obtain ⟨bs, rfl⟩ := bytes_of x g.2
  obtain ⟨cs, rfl⟩ := bytes_of y g2.2
  obtain ⟨ab, rfl⟩ := byte_of ai wa
  obtain ⟨k, hk, hk256⟩ : ∃ k : Nat, byt ab = (k : Int) ∧ k < 256 := ⟨ab.toNat, rfl, ab.isLt⟩
  rw [hk]
  rw [List.length_map] at l hr l2 hr2 ⊢
  rw [List.length_map]
  have HC := Lib.hid hr
  have HD := Lib.hid hr2
  clear e hr g e2 hr2 g2 wa hk
  by_cases hbig : 20000 < bs.length ∨ 20000 < cs.length
  · have d0 : decide (20000 < (bs.length : Int)) = true ∨ decide (20000 < (cs.length : Int)) = true := by
      rcases hbig with h | h
      · exact Or.inl (decide_eq_true (by omega))
      · exact Or.inr (decide_eq_true (by omega))
    by_cases h1 : 20000 < bs.length
    · have d1 : (bs.length : Int) > 20000 := by omega
      clear d0
      go_enter Try.func6, Try.ntmps6
      go_wp2_with fail
      refine (head_any w).mono ?_
      rintro e w1 ⟨rfl, hB⟩
      have HB := Lib.hid hB
      clear hB
      go_wp2_with fail
      go_ret
      exact ⟨rfl, HB.out⟩
    · have d1 : ¬ (bs.length : Int) > 20000 := by omega
      have d2 : (cs.length : Int) > 20000 := by omega
      clear d0
      go_enter Try.func6, Try.ntmps6
      go_wp2_with fail
      refine (head_any w).mono ?_
      rintro e w1 ⟨rfl, hB⟩
      have HB := Lib.hid hB
      clear hB
      go_wp2_with fail
      go_ret
      exact ⟨rfl, HB.out⟩
  · have d1 : ¬ (bs.length : Int) > 20000 := by omega
    have d2 : ¬ (cs.length : Int) > 20000 := by omega
    obtain ⟨X, hX⟩ : ∃ X, X = name bs := ⟨_, rfl⟩
    obtain ⟨Y, hY⟩ : ∃ Y, Y = name cs := ⟨_, rfl⟩
    have hXs : X.size = 64 := by rw [hX]; exact name_size bs
    have hXN : named X = true := by rw [hX]; exact named_name bs
    have hxy : (X.toList == Y.toList) = decide (sum bs = sum cs) := by
      rw [toList_eq, hX, hY]
      exact decide_eq_decide.2 (name_eq_iff bs cs)
    have HX := Lib.hid hX
    have HY := Lib.hid hY
    have HXN := Lib.hid hXN
    have HXY := Lib.hid hxy
    have HXS := Lib.hid hXs
    have hXs1 : (X.size : Int) = 64 := by omega
    clear hX hY hXN hxy hXs
    go_enter Try.func6, Try.ntmps6
    go_wp2_with fail
    refine (head_any w).mono ?_
    rintro e w1 ⟨rfl, hB⟩
    have HB := Lib.hid hB
    clear hB
    go_wp2_with fail
    refine (name_any c A bs w1 (Kd.C_below HC.out HB.out) l (by omega)).mono ?_
    rw [← HX.out]
    rintro e w2 ⟨rfl, hB⟩
    have HB2 := Lib.hid (below_then HB.out HB.out.size hB)
    clear hB
    go_wp2_with fail
    refine (name_any d B cs w2 (Kd.C_below HD.out HB2.out) l2 (by omega)).mono ?_
    rw [← HY.out]
    rintro e w3 ⟨rfl, hB⟩
    have HB3 := Lib.hid (below_then HB2.out HB2.out.size hB)
    clear hB
    go_wp2_with fail
    refine (sum_any c A bs w3 (Kd.C_below HC.out HB3.out) l (by omega)).mono ?_
    rintro e w4 ⟨rfl, hB⟩
    have HB4 := Lib.hid (below_then HB3.out HB3.out.size hB)
    clear hB
    go_wp2_with fail
    refine (sum_any d B cs w4 (Kd.C_below HD.out HB4.out) l2 (by omega)).mono ?_
    rintro e w5 ⟨rfl, hB⟩
    have HB5 := Lib.hid (below_then HB4.out HB4.out.size hB)
    clear hB
    go_wp2_with fail
    rw [eq_sums (sum bs) (sum cs) (sum_len _) (sum_len _)]
    simp only [Result.andThen]
    rw [Oper.upon_value]
    rw [HXY.out]
    obtain ⟨kk, hkk, hkke⟩ : ∃ kk : Nat, kk < 64 ∧ kk = k % 64 := ⟨_, Nat.mod_lt _ (by decide), rfl⟩
    have HM := Lib.hid (show (k : Int) % 64 = (kk : Int) by rw [hkke]; rfl)
    clear hkke
    go_wp2_with fail
    rw [HM.out]
    have hk1 : (kk : Int) < 64 := by omega
    have hk2 : (kk : Int) + 1 ≤ 64 := by omega
    have HW := Lib.hid (show IntKind.i64.wrap ((kk : Int) + 1) = ((kk + 1 : Nat) : Int) by rw [i64_w]; unfold wrap64; omega)
    refine start_ (S := fun _ => True) (ds := [9]) (n := 10) #[false, false, false, false, false, false, false, false, false, false] rfl rfl rfl ?hS0 (fun hHeld => ?hrun)
    case hS0 => trivial
    case hrun =>
      refine pure_ (i := 0) (N := some 43) (v := ?_) (a' := ?_) #[true, false, false, false, false, false, false, false, false, false] rfl rfl (by kernel_rfl) (fun _ _ _ h => h) (Or.inl ⟨by rfl, ?_⟩) ?_ ?_
      rotate_left
      · intro w'
        go_simp
        first | done | with_reducible rfl
      rotate_left
      · simp only [Act.put, List.setIfInBounds_toArray, List.set_cons_zero, List.set_cons_succ, i64_w, i32_w]
        rfl
      refine pure_ (i := 1) (N := some 44) (v := ?_) (a' := ?_) #[true, true, false, false, false, false, false, false, false, false] rfl rfl (by kernel_rfl) (fun _ _ _ h => h) (Or.inl ⟨by rfl, ?_⟩) ?_ ?_
      rotate_left
      · intro w'
        go_simp
        first | done | with_reducible rfl
      rotate_left
      · simp only [Act.put, List.setIfInBounds_toArray, List.set_cons_zero, List.set_cons_succ, i64_w, i32_w]
        rfl
      refine pure_ (i := 2) (N := some 45) (v := ?_) (a' := ?_) #[true, true, true, false, false, false, false, false, false, false] rfl rfl (by kernel_rfl) (fun _ _ _ h => h) (Or.inl ⟨by rfl, ?_⟩) ?_ ?_
      rotate_left
      · intro w'
        go_simp; rw [if_pos (by omega)]
        first | done | with_reducible rfl
      rotate_left
      · simp only [Act.put, List.setIfInBounds_toArray, List.set_cons_zero, List.set_cons_succ, i64_w, i32_w]
        rfl
      refine pure_ (i := 3) (N := some 46) (v := ?_) (a' := ?_) #[true, true, true, true, false, false, false, false, false, false] rfl rfl (by kernel_rfl) (fun _ _ _ h => h) (Or.inl ⟨by rfl, ?_⟩) ?_ ?_
      rotate_left
      · intro w'
        go_simp; rw [if_neg (by omega)]
        first | done | with_reducible rfl
      rotate_left
      · simp only [Act.put, List.setIfInBounds_toArray, List.set_cons_zero, List.set_cons_succ, i64_w, i32_w]
        rfl
      refine pure_ (i := 4) (N := some 47) (v := ?_) (a' := ?_) #[true, true, true, true, true, false, false, false, false, false] rfl rfl (by kernel_rfl) (fun _ _ _ h => h) (Or.inl ⟨by rfl, ?_⟩) ?_ ?_
      rotate_left
      · intro w'
        go_simp
        first | done | with_reducible rfl
      rotate_left
      · simp only [Act.put, List.setIfInBounds_toArray, List.set_cons_zero, List.set_cons_succ, i64_w, i32_w]
        rfl
      refine pure_ (i := 5) (N := some 48) (v := ?_) (a' := ?_) #[true, true, true, true, true, true, false, false, false, false] rfl rfl (by kernel_rfl) (fun _ _ _ h => h) (Or.inl ⟨by rfl, ?_⟩) ?_ ?_
      rotate_left
      · intro w'
        go_simp
        first | done | with_reducible rfl
      rotate_left
      · simp only [Act.put, List.setIfInBounds_toArray, List.set_cons_zero, List.set_cons_succ, i64_w, i32_w]
        rfl
      refine pure_ (i := 6) (N := some 49) (v := ?_) (a' := ?_) #[true, true, true, true, true, true, true, false, false, false] rfl rfl (by kernel_rfl) (fun _ _ _ h => h) (Or.inl ⟨by rfl, ?_⟩) ?_ ?_
      rotate_left
      · intro w'
        go_simp; rw [HW.out]
        first | done | with_reducible rfl
      rotate_left
      · simp only [Act.put, List.setIfInBounds_toArray, List.set_cons_zero, List.set_cons_succ, i64_w, i32_w]
        rfl
      refine pure_ (i := 7) (N := some 50) (v := ?_) (a' := ?_) #[true, true, true, true, true, true, true, true, false, false] rfl rfl (by kernel_rfl) (fun _ _ _ h => h) (Or.inl ⟨by rfl, ?_⟩) ?_ ?_
      rotate_left
      · intro w'
        go_simp; rw [if_pos (by omega)]
        first | done | with_reducible rfl
      rotate_left
      · simp only [Act.put, List.setIfInBounds_toArray, List.set_cons_zero, List.set_cons_succ, i64_w, i32_w]
        rfl
      refine pure_ (i := 8) (N := some 51) (v := ?_) (a' := ?_) #[true, true, true, true, true, true, true, true, true, false] rfl rfl (by kernel_rfl) (fun _ _ _ h => h) (Or.inl ⟨by rfl, ?_⟩) ?_ ?_
      rotate_left
      · intro w'
        go_simp; rw [if_neg (by omega)]
        first | done | with_reducible rfl
      rotate_left
      · simp only [Act.put, List.setIfInBounds_toArray, List.set_cons_zero, List.set_cons_succ, i64_w, i32_w]
        rfl
      refine tail_list 9 (t := [9]) (fuel := 0) rfl rfl rfl (by kernel_rfl) (by decide) ?_
      have hz : named (X.extract 0 kk ++ ⟨#[71]⟩ ++ X.extract (kk + 1) X.size) = false := named_bad _ 71 (by simp [ByteArray.data_append]) (by decide)
      have hs1 : named (X.extract 0 kk) = false := named_size _ (by rw [ByteArray.size_extract]; omega)
      have hs2 : named (X ++ ⟨#[48]⟩) = false := named_size _ (by rw [ByteArray.size_append, HXS.out]; decide)
      have HZ := Lib.hid hz
      have HS1 := Lib.hid hs1
      have HS2 := Lib.hid hs2
      have hk3 : (kk : Int) ≤ 64 := by omega
      clear hz hs1 hs2
      go_wp2_with fail
      refine (named_any X _).mono ?_
      rintro e w6 ⟨rfl, hB⟩
      rw [HXN.out]
      have HB6 := Lib.hid (below_then HB5.out HB5.out.size ((Below.refl w5.heap.size w5).drew.trans hB))
      clear hB
      go_wp2_with fail
      refine (named_any _ w6).mono ?_
      rintro e w7 ⟨rfl, hB⟩
      rw [HZ.out]
      have HB7 := Lib.hid (below_then HB6.out HB6.out.size hB)
      clear hB
      go_wp2_with fail
      refine (named_any _ w7).mono ?_
      rintro e w8 ⟨rfl, hB⟩
      rw [HS1.out]
      have HB8 := Lib.hid (below_then HB7.out HB7.out.size hB)
      clear hB
      go_wp2_with fail
      refine (named_any _ w8).mono ?_
      rintro e w9 ⟨rfl, hB⟩
      rw [HS2.out]
      have HB9 := Lib.hid (below_then HB8.out HB8.out.size hB)
      clear hB
      go_wp2_with fail
      go_ret
      exact ⟨rfl, HB9.out⟩
end Go.Proofs.Ytbnkpfflfiehjaa
