/- Two alike rows of frames, two alike rows of texts. -/
import Derived.Test.YthfgkkpibkkiaaaDoorSessJ
import Derived.Test.YthfgkkpibkkiaaaDoorSessP2
set_option linter.unusedVariables false
set_option linter.unusedSimpArgs false
namespace Go.Proofs.YthfgkkpibkkiaaaDoor
open Go.RowKit Go.Proofs.YthfgkkpibkkiaaaDoorW.PrintWords Go.Proofs.YthfgkkpibkkiaaaDoorW.PrintLast Go.Proofs.YthfgkkpibkkiaaaDoor.PSessionPlays

theorem l0_same (l : List S24) (hl : l.length ≤ 1000000) : ∀ (k i : Nat), i ≤ l.length → l.length - i < k → counterpaneref20_SameList.l0 k l l (i : Int) = some true
  | 0, i, _, h => by omega
  | k + 1, i, hi, h => by
    rw [counterpaneref20_SameList.l0]
    by_cases hlt : i < l.length
    · rw [if_pos (by omega), if_pos (by omega), if_pos (by omega)]
      have hs : ∀ x : S24, counterpaneref20_Same.f x.f0 x.f1 x.f2 x.f3 x.f4 x.f0 x.f1 x.f2 x.f3 x.f4 = some true := fun x => by
        unfold counterpaneref20_Same.f
        simp
      rw [hs]
      simp only [Option.bind_some, if_true]
      rw [show wrap64 ((i : Int) + 1) = ((i + 1 : Nat) : Int) by unfold wrap64; omega]
      exact l0_same l hl k (i + 1) (by omega) (by omega)
    · rw [if_neg (by omega)]
theorem slist_any (l : List S24) (n : Nat) (hn : l.length = n) (hl : n ≤ 1000000) (A0 A1 : Option Addr) (c0 c1 : Nat) (w : World) (h0 : Kd.C k24 w A0 n l) (g0 : n ≤ c0) (h1 : Kd.C k24 w A1 n l) (g1 : n ≤ c1) :
    Calls Tryd.prog 21 #[.slice A0 n c0, .slice A1 n c1] w fun r w' => r = .returned (.bool true) ∧ Below w.heap.size w w' := by
  subst hn
  refine (counterpaneref20_SameList.calls (l.length + 1) A0 c0 l A1 c1 l true w h0 g0 h1 g1 ?_).mono ?_
  · unfold counterpaneref20_SameList.f
    rw [if_pos rfl]
    exact l0_same l hl (l.length + 1) 0 (by omega) (by omega)
  · rintro r w' ⟨rfl, h⟩
    exact ⟨rfl, h⟩
set_option maxRecDepth 100000 in
set_option maxHeartbeats 4000000 in
theorem stexts_any (l : List (List Int)) (n : Nat) (hn : l.length = n) (hl : n ≤ 1000000) (A0 A1 : Option Addr) (c0 c1 : Nat) (w : World) (h0 : kT.C w A0 n l) (g0 : n ≤ c0) (h1 : kT.C w A1 n l) (g1 : n ≤ c1) :
    Calls Tryd.prog 27 #[.slice A0 n c0, .slice A1 n c1] w fun r w' => r = .returned (.bool true) ∧ Below w.heap.size w w' := by
  have H0 := Lib.hid h0
  have H1 := Lib.hid h1
  have HN := Lib.hid hn
  clear h0 h1 hn
  go_enter Tryd.func27, Tryd.ntmps27
  go_wp2_with fail
  go_loopw [5] (fun vi wr => ∃ i : Nat, vi = .int .i64 (i : Int) ∧ i ≤ n ∧ Below w.heap.size w wr) (fun vi _ => n + 1 - (intOf vi).toNat)
  case atStart => exact ⟨0, rfl, by omega, Below.refl _ _⟩
  case round =>
    obtain ⟨i, rfl, hi, hB⟩ := hrel
    have HB := Lib.hid hB
    clear hB
    by_cases hin : i < n
    · have d1 : (i : Int) < (n : Int) := by omega
      obtain ⟨a0, B0, d0, rfl, x0, x1, x2⟩ := at_kT (Kd.C_below H0.out HB.out) i hin
      obtain ⟨a1, B1, e1, rfl, y0, y1, y2⟩ := at_kT (Kd.C_below H1.out HB.out) i hin
      obtain ⟨t, ht⟩ : ∃ t, t = l.getD i [] := ⟨_, rfl⟩
      rw [← ht] at x0 x1 x2 y0 y1 y2
      have HX := Lib.hid (And.intro x2 y2)
      clear x1 x2 y1 y2 ht
      go_upto_region 6 with (fail)
      refine start_ (S := fun w' => Below wr.heap.size wr w' ∧ w'.cell? (a0.add i) = some (.slice B0 t.length d0) ∧ w'.cell? (a1.add i) = some (.slice B1 t.length e1)) (ds := []) (n := 11) #[false, false, false, false, false, false, false, false, false, false, false] rfl rfl rfl ?hS0 (fun hHeld => ?hrun)
      case hS0 => exact ⟨(Below.refl _ _).drew, x0, y0⟩
      case hrun =>
        refine pure_ (i := 0) (N := some 17) (v := ?_) (a' := ?_) #[true, false, false, false, false, false, false, false, false, false, false] rfl rfl (by kernel_rfl) (fun _ _ _ h => h) (Or.inl ⟨by rfl, ?_⟩) ?_ ?_
        rotate_left
        · intro w'
          go_simp
          first | done | with_reducible rfl
        rotate_left
        · simp only [Act.put, List.setIfInBounds_toArray, List.set_cons_zero, List.set_cons_succ, i64_w, i32_w]
          rfl
        refine pure_ (i := 1) (N := some 18) (v := ?_) (a' := ?_) #[true, true, false, false, false, false, false, false, false, false, false] rfl rfl (by kernel_rfl) (fun _ _ _ h => h) (Or.inl ⟨by rfl, ?_⟩) ?_ ?_
        rotate_left
        · intro w'
          go_simp
          first | done | with_reducible rfl
        rotate_left
        · simp only [Act.put, List.setIfInBounds_toArray, List.set_cons_zero, List.set_cons_succ, i64_w, i32_w]
          rfl
        refine pure_ (i := 2) (N := some 19) (v := ?_) (a' := ?_) #[true, true, true, false, false, false, false, false, false, false, false] rfl rfl (by kernel_rfl) (fun _ _ _ h => h) (Or.inl ⟨by rfl, ?_⟩) ?_ ?_
        rotate_left
        · intro w'
          go_simp
          first | done | with_reducible rfl
        rotate_left
        · simp only [Act.put, List.setIfInBounds_toArray, List.set_cons_zero, List.set_cons_succ, i64_w, i32_w]
          rfl
        refine take_ (i := 3) (N := some 20) (v := ?_) (a' := ?_) #[true, true, true, true, false, false, false, false, false, false, false] rfl rfl (by kernel_rfl) (fun _ _ _ h => h) (Or.inl ⟨by rfl, ?_⟩) hHeld ?_ ?_
        rotate_left
        · rintro w' ⟨hbe, k0, k1⟩
          go_simp
          first | done | with_reducible rfl
        rotate_left
        · simp only [Act.put, List.setIfInBounds_toArray, List.set_cons_zero, List.set_cons_succ, i64_w, i32_w]
          rfl
        refine take_ (i := 4) (N := some 21) (v := ?_) (a' := ?_) #[true, true, true, true, true, false, false, false, false, false, false] rfl rfl (by kernel_rfl) (fun _ _ _ h => h) (Or.inl ⟨by rfl, ?_⟩) hHeld ?_ ?_
        rotate_left
        · rintro w' ⟨hbe, k0, k1⟩
          go_simp; rw [Kd.C_string (e := 5) Tryd.underlying22 Tryd.underlying5 Tryd.underlying9 (Kd.C_below HX.out.1 hbe)]; simp only [Result.andThen]
          first | done | with_reducible rfl
        rotate_left
        · simp only [Act.put, List.setIfInBounds_toArray, List.set_cons_zero, List.set_cons_succ, i64_w, i32_w]
          rfl
        refine pure_ (i := 5) (N := some 22) (v := ?_) (a' := ?_) #[true, true, true, true, true, true, false, false, false, false, false] rfl rfl (by kernel_rfl) (fun _ _ _ h => h) (Or.inl ⟨by rfl, ?_⟩) ?_ ?_
        rotate_left
        · intro w'
          go_simp
          first | done | with_reducible rfl
        rotate_left
        · simp only [Act.put, List.setIfInBounds_toArray, List.set_cons_zero, List.set_cons_succ, i64_w, i32_w]
          rfl
        refine pure_ (i := 6) (N := some 23) (v := ?_) (a' := ?_) #[true, true, true, true, true, true, true, false, false, false, false] rfl rfl (by kernel_rfl) (fun _ _ _ h => h) (Or.inl ⟨by rfl, ?_⟩) ?_ ?_
        rotate_left
        · intro w'
          go_simp
          first | done | with_reducible rfl
        rotate_left
        · simp only [Act.put, List.setIfInBounds_toArray, List.set_cons_zero, List.set_cons_succ, i64_w, i32_w]
          rfl
        refine pure_ (i := 7) (N := some 24) (v := ?_) (a' := ?_) #[true, true, true, true, true, true, true, true, false, false, false] rfl rfl (by kernel_rfl) (fun _ _ _ h => h) (Or.inl ⟨by rfl, ?_⟩) ?_ ?_
        rotate_left
        · intro w'
          go_simp
          first | done | with_reducible rfl
        rotate_left
        · simp only [Act.put, List.setIfInBounds_toArray, List.set_cons_zero, List.set_cons_succ, i64_w, i32_w]
          rfl
        refine take_ (i := 8) (N := some 25) (v := ?_) (a' := ?_) #[true, true, true, true, true, true, true, true, true, false, false] rfl rfl (by kernel_rfl) (fun _ _ _ h => h) (Or.inl ⟨by rfl, ?_⟩) hHeld ?_ ?_
        rotate_left
        · rintro w' ⟨hbe, k0, k1⟩
          go_simp
          first | done | with_reducible rfl
        rotate_left
        · simp only [Act.put, List.setIfInBounds_toArray, List.set_cons_zero, List.set_cons_succ, i64_w, i32_w]
          rfl
        refine take_ (i := 9) (N := some 26) (v := ?_) (a' := ?_) #[true, true, true, true, true, true, true, true, true, true, false] rfl rfl (by kernel_rfl) (fun _ _ _ h => h) (Or.inl ⟨by rfl, ?_⟩) hHeld ?_ ?_
        rotate_left
        · rintro w' ⟨hbe, k0, k1⟩
          go_simp; rw [Kd.C_string (e := 5) Tryd.underlying22 Tryd.underlying5 Tryd.underlying9 (Kd.C_below HX.out.2 hbe)]; simp only [Result.andThen]
          first | done | with_reducible rfl
        rotate_left
        · simp only [Act.put, List.setIfInBounds_toArray, List.set_cons_zero, List.set_cons_succ, i64_w, i32_w]
          rfl
        refine pure_ (i := 10) (N := some 27) (v := ?_) (a' := ?_) #[true, true, true, true, true, true, true, true, true, true, true] rfl rfl (by kernel_rfl) (fun _ _ _ h => h) (Or.inl ⟨by rfl, ?_⟩) ?_ ?_
        rotate_left
        · intro w'
          go_simp
          first | done | with_reducible rfl
        rotate_left
        · simp only [Act.put, List.setIfInBounds_toArray, List.set_cons_zero, List.set_cons_succ, i64_w, i32_w]
          rfl
        refine done_ (by kernel_rfl) ?_
        go_wp2_with fail
        refine ⟨⟨i + 1, by go_num, by omega, HB.out.drew⟩, by simp [intOf]; omega⟩
    · obtain rfl : n = i := by omega
      have d1 : ¬ (n : Int) < (n : Int) := by omega
      go_wp2_with fail
      go_ret
      exact ⟨rfl, HB.out⟩
def goodF (x : S24) : Prop := (Lit.int .i64 x.f0).wf = true ∧ (Lit.int .i64 x.f1).wf = true ∧ True ∧ (Lit.int .i64 x.f3).wf = true ∧ goodB x.f4
theorem opens_frame : Opens Tryd.prog 24 k24 goodF :=
  Opens.iso (Opens.struct Tryd.underlying24 (by kernel_rfl) (OpensF.cons rfl (by kernel_rfl) (Opens.int Tryd.underlying2) (OpensF.cons rfl (by kernel_rfl) (Opens.int Tryd.underlying3) (OpensF.cons rfl (by kernel_rfl) (Opens.bool Tryd.underlying4) (OpensF.cons rfl (by kernel_rfl) (Opens.int Tryd.underlying3) (OpensF.one rfl (by kernel_rfl) opens_bytes))))))
    (fun x : S24 => (x.f0, x.f1, x.f2, x.f3, x.f4)) (fun p => ⟨p.1, p.2.1, p.2.2.1, p.2.2.2.1, p.2.2.2.2⟩) (fun _ => rfl)
def goodFs (l : List S24) : Prop := l.length * 56 ≤ 140737488351232 ∧ ∀ x ∈ l, goodF x
abbrev kFs : Kd (List S24) := Kd.slice 24 k24
theorem opens_frames : Opens Tryd.prog 43 kFs goodFs :=
  Opens.slice Tryd.underlying43 (by kernel_rfl) (B := 56) (by kernel_rfl) opens_frame
theorem frames_open {w : World} {l : List S24} {A : Option Addr} {n c : Nat} (h : kFs.K w l [.slice A n c]) : n = l.length ∧ n ≤ c ∧ Kd.C k24 w A n l := by
  obtain ⟨A', c', e, l', hr⟩ := h
  injection e with e _
  injection e with a b c
  subst a b c
  exact ⟨rfl, l', hr⟩
theorem atN_24 {w : World} {A : Option Addr} {n : Nat} {xs : List S24} (h : Kd.C k24 w A n xs) (k : Nat) (hk : k < n) (x : S24) (hx : xs[k]? = some x) : ∃ ad A4 c4, A = some ad ∧ w.cell? (ad.add (k * 5)) = some (.int .i64 x.f0) ∧ w.cell? ⟨(ad.add (k * 5)).block, (ad.add (k * 5)).off + 1, none⟩ = some (.int .i64 x.f1) ∧ w.cell? ⟨(ad.add (k * 5)).block, (ad.add (k * 5)).off + 2, none⟩ = some (.bool x.f2) ∧ w.cell? ⟨(ad.add (k * 5)).block, (ad.add (k * 5)).off + 3, none⟩ = some (.int .i64 x.f3) ∧ w.cell? ⟨(ad.add (k * 5)).block, (ad.add (k * 5)).off + 4, none⟩ = some (.slice A4 x.f4.length c4) ∧ x.f4.length ≤ c4 ∧ (Kd.int .u8).C w A4 x.f4.length x.f4 := by
  have hr : rd_T24 xs (k : Int) = x := by
    unfold rd_T24
    rw [Int.toNat_natCast, List.getD_eq_getElem?_getD, hx]
    rfl
  obtain ⟨ad, A4, c4, e, h0, h1, h2, h3, h4, h5, h6⟩ := at_T24 h (k : Int) (by omega) (by omega)
  rw [hr] at h0 h1 h2 h3 h4 h5 h6
  rw [Int.toNat_natCast] at h0 h1 h2 h3 h4
  exact ⟨ad, A4, c4, e, h0, h1, h2, h3, h4, h5, h6⟩
theorem great_any (x : S24) (A : Option Addr) (n c : Nat) (hl : x.f4.length = n) (w : World) :
    Calls Tryd.prog 13 #[.agg #[.int .i64 x.f0, .int .i64 x.f1, .bool x.f2, .int .i64 x.f3, .slice A n c]] w fun r w' => r = .returned (.bool (decide (40000 < n))) ∧ Below w.heap.size w w' := by
  go_enter Tryd.func13, Tryd.ntmps13
  go_wp2_with fail
  go_ret
  refine ⟨?_, (Below.refl _ _).alloc (Nat.le_refl _) _⟩
  show Ending.returned (Value.bool (decide ((40000 : Int) < (n : Int)))) = _
  congr 2
  rw [decide_eq_decide]
  omega
end Go.Proofs.YthfgkkpibkkiaaaDoor
