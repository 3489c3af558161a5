/- GreatFiles. -/
import Derived.Test.YtbfpmlblnfablaaDiskO
set_option linter.unusedVariables false
set_option linter.unusedSimpArgs false
namespace Go.Proofs.Ytbfpmlblnfablaa
open Go.RowKit Go.Proofs.YtbfpmlblnfablaaW.PrintWords Go.Proofs.YtbfpmlblnfablaaW.PrintLast Go.Proofs.YtbfpmlblnfablaaW.PrintMore
attribute [local go_sem] min_two

set_option maxRecDepth 100000 in
set_option maxHeartbeats 4000000 in
theorem greatFiles_any (A : Option Addr) (n c : Nat) (l : Files) (w : World) (hn : n = l.length) (hnb : n ≤ 140737488351232) (hC : Kd.C kFile w A n l) :
    Calls Try.prog 25 #[.slice A n c] w fun r w' => SaysGreat n 600 r ∧ Below w.heap.size w w' := by
  have HX := Lib.hid hC
  have HN := Lib.hid hn
  have HB := Lib.hid (Below.refl w.heap.size w)
  clear hC hn
  go_enter Try.func25, Try.ntmps25
  go_wp2_with fail
  go_loopw [3, 4] (fun vn vi wr => ∃ (N : Int) (i : Nat), vn = .int .i64 N ∧ vi = .int .i64 (i : Int) ∧ i ≤ n ∧ Below w.heap.size w wr) (fun _ vi _ => n - (Lib.intOf vi).toNat)
  case atStart => exact ⟨0, 0, rfl, rfl, by omega, HB.out⟩
  case round =>
    obtain ⟨N, i, rfl, rfl, hi, hB⟩ := hrel
    have HD := Lib.hid hB
    clear hB
    by_cases hlo : i < n ∧ N < 200000
    · obtain ⟨hin, hgr⟩ := hlo
      have d1 : (i : Int) < (n : Int) := by omega
      obtain ⟨x, hx⟩ : ∃ x, l[i]? = some x := ⟨_, List.getElem?_eq_getElem (by have := HN.out; omega)⟩
      obtain ⟨ad, Ab, cb, e, x0, x1, x2, x3⟩ := at_file (Kd.C_below HX.out HD.out) i hin x hx
      subst e
      obtain ⟨nd, hnd⟩ : ∃ q, q = x.2.length := ⟨_, rfl⟩
      obtain ⟨nm, hnm⟩ : ∃ q, q = x.1 := ⟨_, rfl⟩
      rw [← hnm] at x0
      rw [← hnd] at x1
      obtain ⟨m1, hm1⟩ := min_is (nm.size : Int) 200000
      obtain ⟨m2, hm2⟩ := min_is (nd : Int) 200000
      clear x2 x3 hx hnd hnm
      go_upto_region 5 with (fail)
      refine start_ (S := fun w' => w'.cell? (ad.add (i * 2)) = some (.string nm) ∧ w'.cell? ⟨(ad.add (i * 2)).block, (ad.add (i * 2)).off + 1, none⟩ = some (.slice Ab nd cb)) (ds := [17]) (n := 18) #[false, false, false, false, false, false, false, false, false, false, false, false, false, false, false, false, false, false] rfl rfl rfl ?hS0 (fun hHeld => ?hrun)
      case hS0 => exact ⟨x0, x1⟩
      case hrun =>
        refine pure_ (i := 0) (N := some 15) (v := ?_) (a' := ?_) #[true, false, false, false, false, false, false, false, false, false, false, false, false, false, false, false, false, false] rfl rfl (by kernel_rfl) (fun _ _ _ h => h) (Or.inl ⟨by rfl, ?_⟩) ?_ ?_
        rotate_left
        · intro w'
          go_simp
          first | done | with_reducible rfl
        rotate_left
        · simp only [Act.put, List.setIfInBounds_toArray, List.set_cons_zero, List.set_cons_succ, i64_w, i32_w]
          rfl
        refine pure_ (i := 1) (N := some 16) (v := ?_) (a' := ?_) #[true, true, false, false, false, false, false, false, false, false, false, false, false, false, false, false, false, false] rfl rfl (by kernel_rfl) (fun _ _ _ h => h) (Or.inl ⟨by rfl, ?_⟩) ?_ ?_
        rotate_left
        · intro w'
          go_simp
          first | done | with_reducible rfl
        rotate_left
        · simp only [Act.put, List.setIfInBounds_toArray, List.set_cons_zero, List.set_cons_succ, i64_w, i32_w]
          rfl
        refine pure_ (i := 2) (N := some 17) (v := ?_) (a' := ?_) #[true, true, true, false, false, false, false, false, false, false, false, false, false, false, false, false, false, false] rfl rfl (by kernel_rfl) (fun _ _ _ h => h) (Or.inl ⟨by rfl, ?_⟩) ?_ ?_
        rotate_left
        · intro w'
          go_simp
          first | done | with_reducible rfl
        rotate_left
        · simp only [Act.put, List.setIfInBounds_toArray, List.set_cons_zero, List.set_cons_succ, i64_w, i32_w]
          rfl
        refine pure_ (i := 3) (N := some 18) (v := ?_) (a' := ?_) #[true, true, true, true, false, false, false, false, false, false, false, false, false, false, false, false, false, false] rfl rfl (by kernel_rfl) (fun _ _ _ h => h) (Or.inl ⟨by rfl, ?_⟩) ?_ ?_
        rotate_left
        · intro w'
          go_simp
          first | done | with_reducible rfl
        rotate_left
        · simp only [Act.put, List.setIfInBounds_toArray, List.set_cons_zero, List.set_cons_succ, i64_w, i32_w]
          rfl
        refine pure_ (i := 4) (N := some 19) (v := ?_) (a' := ?_) #[true, true, true, true, true, false, false, false, false, false, false, false, false, false, false, false, false, false] rfl rfl (by kernel_rfl) (fun _ _ _ h => h) (Or.inl ⟨by rfl, ?_⟩) ?_ ?_
        rotate_left
        · intro w'
          go_simp
          first | done | with_reducible rfl
        rotate_left
        · simp only [Act.put, List.setIfInBounds_toArray, List.set_cons_zero, List.set_cons_succ, i64_w, i32_w]
          rfl
        refine take_ (i := 5) (N := some 20) (v := ?_) (a' := ?_) #[true, true, true, true, true, true, false, false, false, false, false, false, false, false, false, false, false, false] rfl rfl (by kernel_rfl) (fun _ _ _ h => h) (Or.inl ⟨by rfl, ?_⟩) hHeld ?_ ?_
        rotate_left
        · rintro w' ⟨y0, y1⟩
          go_simp
          first | done | with_reducible rfl
        rotate_left
        · simp only [Act.put, List.setIfInBounds_toArray, List.set_cons_zero, List.set_cons_succ, i64_w, i32_w]
          rfl
        refine pure_ (i := 6) (N := some 21) (v := ?_) (a' := ?_) #[true, true, true, true, true, true, true, false, false, false, false, false, false, false, false, false, false, false] rfl rfl (by kernel_rfl) (fun _ _ _ h => h) (Or.inl ⟨by rfl, ?_⟩) ?_ ?_
        rotate_left
        · intro w'
          go_simp
          first | done | with_reducible rfl
        rotate_left
        · simp only [Act.put, List.setIfInBounds_toArray, List.set_cons_zero, List.set_cons_succ, i64_w, i32_w]
          rfl
        refine pure_ (i := 7) (N := some 22) (v := ?_) (a' := ?_) #[true, true, true, true, true, true, true, true, false, false, false, false, false, false, false, false, false, false] rfl rfl (by kernel_rfl) (fun _ _ _ h => h) (Or.inl ⟨by rfl, ?_⟩) ?_ ?_
        rotate_left
        · intro w'
          go_simp
          first | done | with_reducible rfl
        rotate_left
        · simp only [Act.put, List.setIfInBounds_toArray, List.set_cons_zero, List.set_cons_succ, i64_w, i32_w]
          rfl
        refine pure_ (i := 8) (N := some 23) (v := ?_) (a' := ?_) #[true, true, true, true, true, true, true, true, true, false, false, false, false, false, false, false, false, false] rfl rfl (by kernel_rfl) (fun _ _ _ h => h) (Or.inl ⟨by rfl, ?_⟩) ?_ ?_
        rotate_left
        · intro w'
          go_simp
          first | done | with_reducible rfl
        rotate_left
        · simp only [Act.put, List.setIfInBounds_toArray, List.set_cons_zero, List.set_cons_succ, i64_w, i32_w]
          rfl
        refine pure_ (i := 9) (N := some 24) (v := ?_) (a' := ?_) #[true, true, true, true, true, true, true, true, true, true, false, false, false, false, false, false, false, false] rfl rfl (by kernel_rfl) (fun _ _ _ h => h) (Or.inl ⟨by rfl, ?_⟩) ?_ ?_
        rotate_left
        · intro w'
          go_simp
          first | done | with_reducible rfl
        rotate_left
        · simp only [Act.put, List.setIfInBounds_toArray, List.set_cons_zero, List.set_cons_succ, i64_w, i32_w]
          rfl
        refine pure_ (i := 10) (N := some 25) (v := ?_) (a' := ?_) #[true, true, true, true, true, true, true, true, true, true, true, false, false, false, false, false, false, false] rfl rfl (by kernel_rfl) (fun _ _ _ h => h) (Or.inl ⟨by rfl, ?_⟩) ?_ ?_
        rotate_left
        · intro w'
          go_simp
          first | done | with_reducible rfl
        rotate_left
        · simp only [Act.put, List.setIfInBounds_toArray, List.set_cons_zero, List.set_cons_succ, i64_w, i32_w]
          rfl
        refine pure_ (i := 11) (N := some 26) (v := ?_) (a' := ?_) #[true, true, true, true, true, true, true, true, true, true, true, true, false, false, false, false, false, false] rfl rfl (by kernel_rfl) (fun _ _ _ h => h) (Or.inl ⟨by rfl, ?_⟩) ?_ ?_
        rotate_left
        · intro w'
          go_simp
          first | done | with_reducible rfl
        rotate_left
        · simp only [Act.put, List.setIfInBounds_toArray, List.set_cons_zero, List.set_cons_succ, i64_w, i32_w]
          rfl
        refine pure_ (i := 12) (N := some 27) (v := ?_) (a' := ?_) #[true, true, true, true, true, true, true, true, true, true, true, true, true, false, false, false, false, false] rfl rfl (by kernel_rfl) (fun _ _ _ h => h) (Or.inl ⟨by rfl, ?_⟩) ?_ ?_
        rotate_left
        · intro w'
          go_simp
          first | done | with_reducible rfl
        rotate_left
        · simp only [Act.put, List.setIfInBounds_toArray, List.set_cons_zero, List.set_cons_succ, i64_w, i32_w]
          rfl
        refine take_ (i := 13) (N := some 28) (v := ?_) (a' := ?_) #[true, true, true, true, true, true, true, true, true, true, true, true, true, true, false, false, false, false] rfl rfl (by kernel_rfl) (fun _ _ _ h => h) (Or.inl ⟨by rfl, ?_⟩) hHeld ?_ ?_
        rotate_left
        · rintro w' ⟨y0, y1⟩
          go_simp
          first | done | with_reducible rfl
        rotate_left
        · simp only [Act.put, List.setIfInBounds_toArray, List.set_cons_zero, List.set_cons_succ, i64_w, i32_w]
          rfl
        refine pure_ (i := 14) (N := some 29) (v := ?_) (a' := ?_) #[true, true, true, true, true, true, true, true, true, true, true, true, true, true, true, false, false, false] rfl rfl (by kernel_rfl) (fun _ _ _ h => h) (Or.inl ⟨by rfl, ?_⟩) ?_ ?_
        rotate_left
        · intro w'
          go_simp
          first | done | with_reducible rfl
        rotate_left
        · simp only [Act.put, List.setIfInBounds_toArray, List.set_cons_zero, List.set_cons_succ, i64_w, i32_w]
          rfl
        refine pure_ (i := 15) (N := some 30) (v := ?_) (a' := ?_) #[true, true, true, true, true, true, true, true, true, true, true, true, true, true, true, true, false, false] rfl rfl (by kernel_rfl) (fun _ _ _ h => h) (Or.inl ⟨by rfl, ?_⟩) ?_ ?_
        rotate_left
        · intro w'
          go_simp
          first | done | with_reducible rfl
        rotate_left
        · simp only [Act.put, List.setIfInBounds_toArray, List.set_cons_zero, List.set_cons_succ, i64_w, i32_w]
          rfl
        refine pure_ (i := 16) (N := some 31) (v := ?_) (a' := ?_) #[true, true, true, true, true, true, true, true, true, true, true, true, true, true, true, true, true, false] rfl rfl (by kernel_rfl) (fun _ _ _ h => h) (Or.inl ⟨by rfl, ?_⟩) ?_ ?_
        rotate_left
        · intro w'
          go_simp
          first | done | with_reducible rfl
        rotate_left
        · simp only [Act.put, List.setIfInBounds_toArray, List.set_cons_zero, List.set_cons_succ, i64_w, i32_w]
          rfl
        refine tail_list 17 (t := [17]) (fuel := 0) rfl rfl rfl (by kernel_rfl) (by decide) ?_
        clear x0 x1 hHeld hm1 hm2
        go_wp2_with fail
        go_roundw
        case rel => exact ⟨_, i + 1, rfl, by simp, by omega, HD.out.drew⟩
        case measure => simp [Lib.intOf]; omega
    · have d1 : (i : Int) < (n : Int) → ¬ N < (200000 : Int) := by omega
      by_cases h3 : 200000 ≤ N
      · by_cases hin : i < n
        · have d0 : (i : Int) < (n : Int) := by omega
          have d2 := d1 d0
          clear d1
          go_wp2_with fail
          go_ret
          exact ⟨⟨true, rfl, fun h => (by cases h)⟩, HD.out⟩
        · have d0 : ¬ (i : Int) < (n : Int) := by omega
          clear d1
          go_wp2_with fail
          go_ret
          exact ⟨⟨true, rfl, fun h => (by cases h)⟩, HD.out⟩
      · have hin : ¬ i < n := by omega
        have d0 : ¬ (i : Int) < (n : Int) := by omega
        have d3 : ¬ (200000 : Int) ≤ N := by omega
        clear d1
        by_cases h4 : 600 < n
        · have d4 : (600 : Int) < (n : Int) := by omega
          go_wp2_with fail
          go_ret
          exact ⟨⟨true, rfl, fun h => (by cases h)⟩, HD.out⟩
        · have d4 : ¬ (600 : Int) < (n : Int) := by omega
          go_wp2_with fail
          go_ret
          exact ⟨⟨false, rfl, fun _ => by omega⟩, HD.out⟩
/-! ## what the files of Of are -/
theorem ofL_keeps : ∀ (l : Files) (fs gs : Files), ofL fs l = some gs → ∀ s t, look fs s = some t → look gs s = some t
  | [], fs, gs, h, s, t, hl => by simp [ofL] at h; subst h; exact hl
  | y :: r, fs, gs, h, s, t, hl => by
    rw [ofL] at h
    split at h
    · cases h
    · rename_i hn
      have hne : y.1 ≠ s := fun e => hn (.inl (by rw [e, hl]; rfl))
      exact ofL_keeps r _ gs h s t (by rw [look_put_far _ hne]; exact hl)
theorem ofL_look : ∀ (l : Files) (fs gs : Files), ofL fs l = some gs → ∀ x ∈ l, look gs x.1 = some x.2
  | [], _, _, _, x, hx => by cases hx
  | y :: r, fs, gs, h, x, hx => by
    rw [ofL] at h
    split at h
    · cases h
    · rcases List.mem_cons.1 hx with rfl | hx
      · exact ofL_keeps r _ gs h _ _ (look_put_same _ _ _)
      · exact ofL_look r _ gs h x hx
theorem ofL_each : ∀ (l : Files) (fs gs : Files), ofL fs l = some gs → Each fs → Each gs
  | [], fs, gs, h, he => by simp [ofL] at h; subst h; exact he
  | y :: r, fs, gs, h, he => by
    rw [ofL] at h
    split at h
    · cases h
    · rename_i hn
      exact ofL_each r _ gs h (he.put (by
        rcases Nat.lt_or_ge 65536 y.2.length with h' | h'
        · exact absurd (.inr (.inr h')) hn
        · exact h'))
theorem SmallI.of {room : Int} {l fs : Files} (h : ofL [] l = some fs) (hl : l.length ≤ 512) (hr : room ≤ 9223372036854775807) : SmallI 512 (ofD room fs) := by
  have h1 := ofL_length l [] fs h
  have h0 : ([] : Files).length = 0 := rfl
  have he := ofL_each l [] fs h (fun p hp => by cases hp)
  exact ⟨by show fs.length ≤ _; omega, by show fs.length + 0 ≤ _; omega, ⟨Int.le_refl _, by show (0 : Int) ≤ _; omega⟩, by show -1 ≤ (-1 : Int) ∧ (-1 : Int) ≤ _; omega, by show 0 ≤ max room 0 ∧ max room 0 ≤ _; omega, ⟨he, he, (fun c hc => by cases hc)⟩⟩
end Go.Proofs.Ytbfpmlblnfablaa
