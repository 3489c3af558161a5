/- Chapter 01: Same of alike files; DiskRefused. -/
import Derived.Test.YtbfpmlblnfablaaDiskI
import Derived.Test.YtbfpmlblnfablaaLaws01d
set_option linter.unusedVariables false
set_option linter.unusedSimpArgs false
namespace Go.Proofs.Ytbfpmlblnfablaa
open Go.RowKit Go.Proofs.YtbfpmlblnfablaaW.PrintWords Go.Proofs.YtbfpmlblnfablaaW.PrintLast Go.Proofs.YtbfpmlblnfablaaW.PrintMore

set_option maxRecDepth 100000 in
set_option maxHeartbeats 4000000 in
theorem same_true (w : World) (l : Files) (A1 A2 : Option Addr) (n c1 c2 : Nat) (hn : n = l.length) (hnb : n ≤ 1000000) (h1 : Kd.C kFile w A1 n l) (h2 : Kd.C kFile w A2 n l) :
    Calls Try.prog 27 #[.slice A1 n c1, .slice A2 n c2] w fun r w' => r = .returned (.bool true) ∧ Below w.heap.size w w' := by
  have HC := Lib.hid (And.intro h1 h2)
  have HN := Lib.hid hn
  have HB := Lib.hid (Below.refl w.heap.size w)
  clear h1 h2 hn
  go_enter Try.func27, Try.ntmps27
  go_wp2_with fail
  go_loopw [5] (fun vi wr => ∃ i : Nat, vi = .int .i64 (i : Int) ∧ i ≤ n ∧ Below w.heap.size w wr) (fun vi _ => n - (Lib.intOf vi).toNat)
  case atStart => exact ⟨0, rfl, Nat.zero_le _, HB.out⟩
  case round =>
    obtain ⟨i, rfl, hi, hB⟩ := hrel
    by_cases hin : i < n
    · have d1 : (i : Int) < (n : Int) := by omega
      obtain ⟨x, hx⟩ : ∃ x, l[i]? = some x := ⟨_, List.getElem?_eq_getElem (by have := HN.out; omega)⟩
      obtain ⟨ad1, B1, b1, e1, x0, x1, x2, x3⟩ := at_file (Kd.C_below HC.out.1 hB) i hin x hx
      obtain ⟨ad2, B2, b2, e2, y0, y1, y2, y3⟩ := at_file (Kd.C_below HC.out.2 hB) i hin x hx
      subst e1
      subst e2
      obtain ⟨nm, hnm⟩ : ∃ s, s = x.1 := ⟨_, rfl⟩
      obtain ⟨nd, hnd⟩ : ∃ k, k = x.2.length := ⟨_, rfl⟩
      obtain ⟨Sx, hSx⟩ : ∃ S, S = strOfNums x.2 := ⟨_, rfl⟩
      have k1 : (convert 22 9 (.slice B1 nd b1)).run Try.prog wr.drew = .ok (.string Sx) wr.drew := by rw [hSx, hnd]; exact Kd.C_string Try.underlying22 Try.underlying5 Try.underlying9 (Kd.C_drew x3)
      have k2 : (convert 22 9 (.slice B2 nd b2)).run Try.prog wr.drew = .ok (.string Sx) wr.drew := by rw [hSx, hnd]; exact Kd.C_string Try.underlying22 Try.underlying5 Try.underlying9 (Kd.C_drew y3)
      rw [← hnm] at x0 y0
      rw [← hnd] at x1 y1
      have q1 : (nm.toList == nm.toList) = true := by simp
      have q2 : (Sx.toList == Sx.toList) = true := by simp
      have HBr := Lib.hid hB
      clear x2 x3 y2 y3 hx hnm hnd hSx hB
      go_upto_region 6 with (fail)
      refine start_ (S := fun w' => (convert 22 9 (.slice B1 nd b1)).run Try.prog w' = .ok (.string Sx) w' ∧ (convert 22 9 (.slice B2 nd b2)).run Try.prog w' = .ok (.string Sx) w' ∧ w'.cell? (ad1.add (i * 2)) = some (.string nm) ∧ w'.cell? ⟨(ad1.add (i * 2)).block, (ad1.add (i * 2)).off + 1, none⟩ = some (.slice B1 nd b1) ∧ w'.cell? (ad2.add (i * 2)) = some (.string nm) ∧ w'.cell? ⟨(ad2.add (i * 2)).block, (ad2.add (i * 2)).off + 1, none⟩ = some (.slice B2 nd b2)) (ds := [25]) (n := 26) #[false, false, false, false, false, false, false, false, false, false, false, false, false, false, false, false, false, false, false, false, false, false, false, false, false, false] rfl rfl rfl ?hS0 (fun hHeld => ?hrun)
      case hS0 => exact ⟨k1, k2, x0, x1, y0, y1⟩
      case hrun =>
        refine pure_ (i := 0) (N := some 17) (v := ?_) (a' := ?_) #[true, false, false, false, false, false, false, false, false, false, false, false, false, false, false, false, false, false, false, false, false, false, false, false, false, false] rfl rfl (by kernel_rfl) (fun _ _ _ h => h) (Or.inl ⟨by rfl, ?_⟩) ?_ ?_
        rotate_left
        · intro w'
          go_simp
          first | done | with_reducible rfl
        rotate_left
        · simp only [Act.put, List.setIfInBounds_toArray, List.set_cons_zero, List.set_cons_succ, i64_w, i32_w]
          rfl
        refine pure_ (i := 1) (N := some 18) (v := ?_) (a' := ?_) #[true, true, false, false, false, false, false, false, false, false, false, false, false, false, false, false, false, false, false, false, false, false, false, false, false, false] rfl rfl (by kernel_rfl) (fun _ _ _ h => h) (Or.inl ⟨by rfl, ?_⟩) ?_ ?_
        rotate_left
        · intro w'
          go_simp
          first | done | with_reducible rfl
        rotate_left
        · simp only [Act.put, List.setIfInBounds_toArray, List.set_cons_zero, List.set_cons_succ, i64_w, i32_w]
          rfl
        refine pure_ (i := 2) (N := some 19) (v := ?_) (a' := ?_) #[true, true, true, false, false, false, false, false, false, false, false, false, false, false, false, false, false, false, false, false, false, false, false, false, false, false] rfl rfl (by kernel_rfl) (fun _ _ _ h => h) (Or.inl ⟨by rfl, ?_⟩) ?_ ?_
        rotate_left
        · intro w'
          go_simp
          first | done | with_reducible rfl
        rotate_left
        · simp only [Act.put, List.setIfInBounds_toArray, List.set_cons_zero, List.set_cons_succ, i64_w, i32_w]
          rfl
        refine pure_ (i := 3) (N := some 20) (v := ?_) (a' := ?_) #[true, true, true, true, false, false, false, false, false, false, false, false, false, false, false, false, false, false, false, false, false, false, false, false, false, false] rfl rfl (by kernel_rfl) (fun _ _ _ h => h) (Or.inl ⟨by rfl, ?_⟩) ?_ ?_
        rotate_left
        · intro w'
          go_simp
          first | done | with_reducible rfl
        rotate_left
        · simp only [Act.put, List.setIfInBounds_toArray, List.set_cons_zero, List.set_cons_succ, i64_w, i32_w]
          rfl
        refine take_ (i := 4) (N := some 21) (v := ?_) (a' := ?_) #[true, true, true, true, true, false, false, false, false, false, false, false, false, false, false, false, false, false, false, false, false, false, false, false, false, false] rfl rfl (by kernel_rfl) (fun _ _ _ h => h) (Or.inl ⟨by rfl, ?_⟩) hHeld ?_ ?_
        rotate_left
        · rintro w' ⟨g1, g2, g3, g4, g5, g6⟩
          go_simp
          first | done | with_reducible rfl
        rotate_left
        · simp only [Act.put, List.setIfInBounds_toArray, List.set_cons_zero, List.set_cons_succ, i64_w, i32_w]
          rfl
        refine pure_ (i := 5) (N := some 22) (v := ?_) (a' := ?_) #[true, true, true, true, true, true, false, false, false, false, false, false, false, false, false, false, false, false, false, false, false, false, false, false, false, false] rfl rfl (by kernel_rfl) (fun _ _ _ h => h) (Or.inl ⟨by rfl, ?_⟩) ?_ ?_
        rotate_left
        · intro w'
          go_simp
          first | done | with_reducible rfl
        rotate_left
        · simp only [Act.put, List.setIfInBounds_toArray, List.set_cons_zero, List.set_cons_succ, i64_w, i32_w]
          rfl
        refine pure_ (i := 6) (N := some 23) (v := ?_) (a' := ?_) #[true, true, true, true, true, true, true, false, false, false, false, false, false, false, false, false, false, false, false, false, false, false, false, false, false, false] rfl rfl (by kernel_rfl) (fun _ _ _ h => h) (Or.inl ⟨by rfl, ?_⟩) ?_ ?_
        rotate_left
        · intro w'
          go_simp
          first | done | with_reducible rfl
        rotate_left
        · simp only [Act.put, List.setIfInBounds_toArray, List.set_cons_zero, List.set_cons_succ, i64_w, i32_w]
          rfl
        refine pure_ (i := 7) (N := some 24) (v := ?_) (a' := ?_) #[true, true, true, true, true, true, true, true, false, false, false, false, false, false, false, false, false, false, false, false, false, false, false, false, false, false] rfl rfl (by kernel_rfl) (fun _ _ _ h => h) (Or.inl ⟨by rfl, ?_⟩) ?_ ?_
        rotate_left
        · intro w'
          go_simp
          first | done | with_reducible rfl
        rotate_left
        · simp only [Act.put, List.setIfInBounds_toArray, List.set_cons_zero, List.set_cons_succ, i64_w, i32_w]
          rfl
        refine pure_ (i := 8) (N := some 25) (v := ?_) (a' := ?_) #[true, true, true, true, true, true, true, true, true, false, false, false, false, false, false, false, false, false, false, false, false, false, false, false, false, false] rfl rfl (by kernel_rfl) (fun _ _ _ h => h) (Or.inl ⟨by rfl, ?_⟩) ?_ ?_
        rotate_left
        · intro w'
          go_simp
          first | done | with_reducible rfl
        rotate_left
        · simp only [Act.put, List.setIfInBounds_toArray, List.set_cons_zero, List.set_cons_succ, i64_w, i32_w]
          rfl
        refine take_ (i := 9) (N := some 26) (v := ?_) (a' := ?_) #[true, true, true, true, true, true, true, true, true, true, false, false, false, false, false, false, false, false, false, false, false, false, false, false, false, false] rfl rfl (by kernel_rfl) (fun _ _ _ h => h) (Or.inl ⟨by rfl, ?_⟩) hHeld ?_ ?_
        rotate_left
        · rintro w' ⟨g1, g2, g3, g4, g5, g6⟩
          go_simp
          first | done | with_reducible rfl
        rotate_left
        · simp only [Act.put, List.setIfInBounds_toArray, List.set_cons_zero, List.set_cons_succ, i64_w, i32_w]
          rfl
        refine pure_ (i := 10) (N := some 27) (v := ?_) (a' := ?_) #[true, true, true, true, true, true, true, true, true, true, true, false, false, false, false, false, false, false, false, false, false, false, false, false, false, false] rfl rfl (by kernel_rfl) (fun _ _ _ h => h) (Or.inl ⟨by rfl, ?_⟩) ?_ ?_
        rotate_left
        · intro w'
          go_simp
          first | done | with_reducible rfl
        rotate_left
        · simp only [Act.put, List.setIfInBounds_toArray, List.set_cons_zero, List.set_cons_succ, i64_w, i32_w]
          rfl
        refine pure_ (i := 11) (N := some 28) (v := ?_) (a' := ?_) #[true, true, true, true, true, true, true, true, true, true, true, true, false, false, false, false, false, false, false, false, false, false, false, false, false, false] rfl rfl (by kernel_rfl) (fun _ _ _ h => h) (Or.inl ⟨by rfl, ?_⟩) ?_ ?_
        rotate_left
        · intro w'
          go_simp
          first | done | with_reducible rfl
        rotate_left
        · simp only [Act.put, List.setIfInBounds_toArray, List.set_cons_zero, List.set_cons_succ, i64_w, i32_w]
          rfl
        refine pure_ (i := 12) (N := some 29) (v := ?_) (a' := ?_) #[true, true, true, true, true, true, true, true, true, true, true, true, true, false, false, false, false, false, false, false, false, false, false, false, false, false] rfl rfl (by kernel_rfl) (fun _ _ _ h => h) (Or.inl ⟨by rfl, ?_⟩) ?_ ?_
        rotate_left
        · intro w'
          go_simp
          first | done | with_reducible rfl
        rotate_left
        · simp only [Act.put, List.setIfInBounds_toArray, List.set_cons_zero, List.set_cons_succ, i64_w, i32_w]
          rfl
        refine pure_ (i := 13) (N := some 30) (v := ?_) (a' := ?_) #[true, true, true, true, true, true, true, true, true, true, true, true, true, true, false, false, false, false, false, false, false, false, false, false, false, false] rfl rfl (by kernel_rfl) (fun _ _ _ h => h) (Or.inl ⟨by rfl, ?_⟩) ?_ ?_
        rotate_left
        · intro w'
          go_simp
          first | done | with_reducible rfl
        rotate_left
        · simp only [Act.put, List.setIfInBounds_toArray, List.set_cons_zero, List.set_cons_succ, i64_w, i32_w]
          rfl
        refine pure_ (i := 14) (N := some 31) (v := ?_) (a' := ?_) #[true, true, true, true, true, true, true, true, true, true, true, true, true, true, true, false, false, false, false, false, false, false, false, false, false, false] rfl rfl (by kernel_rfl) (fun _ _ _ h => h) (Or.inl ⟨by rfl, ?_⟩) ?_ ?_
        rotate_left
        · intro w'
          go_simp
          first | done | with_reducible rfl
        rotate_left
        · simp only [Act.put, List.setIfInBounds_toArray, List.set_cons_zero, List.set_cons_succ, i64_w, i32_w]
          rfl
        refine pure_ (i := 15) (N := some 32) (v := ?_) (a' := ?_) #[true, true, true, true, true, true, true, true, true, true, true, true, true, true, true, true, false, false, false, false, false, false, false, false, false, false] rfl rfl (by kernel_rfl) (fun _ _ _ h => h) (Or.inl ⟨by rfl, ?_⟩) ?_ ?_
        rotate_left
        · intro w'
          go_simp
          first | done | with_reducible rfl
        rotate_left
        · simp only [Act.put, List.setIfInBounds_toArray, List.set_cons_zero, List.set_cons_succ, i64_w, i32_w]
          rfl
        refine take_ (i := 16) (N := some 33) (v := ?_) (a' := ?_) #[true, true, true, true, true, true, true, true, true, true, true, true, true, true, true, true, true, false, false, false, false, false, false, false, false, false] rfl rfl (by kernel_rfl) (fun _ _ _ h => h) (Or.inl ⟨by rfl, ?_⟩) hHeld ?_ ?_
        rotate_left
        · rintro w' ⟨g1, g2, g3, g4, g5, g6⟩
          go_simp
          first | done | with_reducible rfl
        rotate_left
        · simp only [Act.put, List.setIfInBounds_toArray, List.set_cons_zero, List.set_cons_succ, i64_w, i32_w]
          rfl
        refine take_ (i := 17) (N := some 34) (v := ?_) (a' := ?_) #[true, true, true, true, true, true, true, true, true, true, true, true, true, true, true, true, true, true, false, false, false, false, false, false, false, false] rfl rfl (by kernel_rfl) (fun _ _ _ h => h) (Or.inl ⟨by rfl, ?_⟩) hHeld ?_ ?_
        rotate_left
        · rintro w' ⟨g1, g2, g3, g4, g5, g6⟩
          go_simp
          first | done | with_reducible rfl
        rotate_left
        · simp only [Act.put, List.setIfInBounds_toArray, List.set_cons_zero, List.set_cons_succ, i64_w, i32_w]
          rfl
        refine pure_ (i := 18) (N := some 35) (v := ?_) (a' := ?_) #[true, true, true, true, true, true, true, true, true, true, true, true, true, true, true, true, true, true, true, false, false, false, false, false, false, false] rfl rfl (by kernel_rfl) (fun _ _ _ h => h) (Or.inl ⟨by rfl, ?_⟩) ?_ ?_
        rotate_left
        · intro w'
          go_simp
          first | done | with_reducible rfl
        rotate_left
        · simp only [Act.put, List.setIfInBounds_toArray, List.set_cons_zero, List.set_cons_succ, i64_w, i32_w]
          rfl
        refine pure_ (i := 19) (N := some 36) (v := ?_) (a' := ?_) #[true, true, true, true, true, true, true, true, true, true, true, true, true, true, true, true, true, true, true, true, false, false, false, false, false, false] rfl rfl (by kernel_rfl) (fun _ _ _ h => h) (Or.inl ⟨by rfl, ?_⟩) ?_ ?_
        rotate_left
        · intro w'
          go_simp
          first | done | with_reducible rfl
        rotate_left
        · simp only [Act.put, List.setIfInBounds_toArray, List.set_cons_zero, List.set_cons_succ, i64_w, i32_w]
          rfl
        refine pure_ (i := 20) (N := some 37) (v := ?_) (a' := ?_) #[true, true, true, true, true, true, true, true, true, true, true, true, true, true, true, true, true, true, true, true, true, false, false, false, false, false] rfl rfl (by kernel_rfl) (fun _ _ _ h => h) (Or.inl ⟨by rfl, ?_⟩) ?_ ?_
        rotate_left
        · intro w'
          go_simp
          first | done | with_reducible rfl
        rotate_left
        · simp only [Act.put, List.setIfInBounds_toArray, List.set_cons_zero, List.set_cons_succ, i64_w, i32_w]
          rfl
        refine pure_ (i := 21) (N := some 38) (v := ?_) (a' := ?_) #[true, true, true, true, true, true, true, true, true, true, true, true, true, true, true, true, true, true, true, true, true, true, false, false, false, false] rfl rfl (by kernel_rfl) (fun _ _ _ h => h) (Or.inl ⟨by rfl, ?_⟩) ?_ ?_
        rotate_left
        · intro w'
          go_simp
          first | done | with_reducible rfl
        rotate_left
        · simp only [Act.put, List.setIfInBounds_toArray, List.set_cons_zero, List.set_cons_succ, i64_w, i32_w]
          rfl
        refine take_ (i := 22) (N := some 39) (v := ?_) (a' := ?_) #[true, true, true, true, true, true, true, true, true, true, true, true, true, true, true, true, true, true, true, true, true, true, true, false, false, false] rfl rfl (by kernel_rfl) (fun _ _ _ h => h) (Or.inl ⟨by rfl, ?_⟩) hHeld ?_ ?_
        rotate_left
        · rintro w' ⟨g1, g2, g3, g4, g5, g6⟩
          go_simp
          first | done | with_reducible rfl
        rotate_left
        · simp only [Act.put, List.setIfInBounds_toArray, List.set_cons_zero, List.set_cons_succ, i64_w, i32_w]
          rfl
        refine take_ (i := 23) (N := some 40) (v := ?_) (a' := ?_) #[true, true, true, true, true, true, true, true, true, true, true, true, true, true, true, true, true, true, true, true, true, true, true, true, false, false] rfl rfl (by kernel_rfl) (fun _ _ _ h => h) (Or.inl ⟨by rfl, ?_⟩) hHeld ?_ ?_
        rotate_left
        · rintro w' ⟨g1, g2, g3, g4, g5, g6⟩
          go_simp
          first | done | with_reducible rfl
        rotate_left
        · simp only [Act.put, List.setIfInBounds_toArray, List.set_cons_zero, List.set_cons_succ, i64_w, i32_w]
          rfl
        refine pure_ (i := 24) (N := some 41) (v := ?_) (a' := ?_) #[true, true, true, true, true, true, true, true, true, true, true, true, true, true, true, true, true, true, true, true, true, true, true, true, true, false] rfl rfl (by kernel_rfl) (fun _ _ _ h => h) (Or.inl ⟨by rfl, ?_⟩) ?_ ?_
        rotate_left
        · intro w'
          go_simp
          first | done | with_reducible rfl
        rotate_left
        · simp only [Act.put, List.setIfInBounds_toArray, List.set_cons_zero, List.set_cons_succ, i64_w, i32_w]
          rfl
        refine tail_list 25 (t := [25]) (fuel := 0) rfl rfl rfl (by kernel_rfl) (by decide) ?_
        clear k1 k2 hHeld x0 x1 y0 y1 q1 q2
        go_wp2_with fail
        refine ⟨⟨i + 1, by simp, by omega, HBr.out.drew⟩, ?_⟩
        simp [Lib.intOf]
        omega
    · have d1 : ¬ (i : Int) < (n : Int) := by omega
      have HBr := Lib.hid hB
      clear hB
      go_wp2_with fail
      go_ret
      exact ⟨rfl, HBr.out⟩

/-! ## what is refused -/
/-- What a call answers, and what it leaves. -/
structure Answers (d : D) (e : Int) (d' : D) : Prop where
  down : d.down = true → e = 13
  gone : e = 13 → d'.down = true
  no : e ≠ 0 → d'.now = d.now ∧ d'.acts = d.acts ∧ d'.ch.length = d.ch.length
  yes : e = 0 → d'.acts = d.acts + 1
theorem answers_act (d : D) (code : Int) (c : Chg) (hc : code ≠ 13) : Answers d (actE d code) (actD d code c) := by
  unfold actE actD
  cases ho : offD d with
  | true =>
    simp only [if_true]
    exact ⟨fun _ => rfl, fun _ => rfl, fun _ => ⟨rfl, rfl, rfl⟩, fun h => (by cases h)⟩
  | false =>
    simp only [Bool.false_eq_true, if_false]
    have hd : d.down = false := by
      unfold offD at ho
      exact (Bool.or_eq_false_iff.1 ho).1
    by_cases h0 : code = 0
    · rw [if_pos h0]
      exact ⟨(fun h => by rw [hd] at h; cases h), fun h => absurd h hc, fun h => absurd h0 h, fun _ => rfl⟩
    · rw [if_neg h0]
      exact ⟨(fun h => by rw [hd] at h; cases h), fun h => absurd h hc, fun _ => ⟨rfl, rfl, rfl⟩, fun h => absurd h h0⟩
theorem answers_sync (d : D) : Answers d (syncE d) (syncD d) := by
  unfold syncE syncD actE
  cases ho : offD d with
  | true =>
    simp only [if_true]
    exact ⟨fun _ => rfl, fun _ => rfl, fun _ => ⟨rfl, rfl, rfl⟩, fun h => (by cases h)⟩
  | false =>
    simp only [Bool.false_eq_true, if_false]
    have hd : d.down = false := by
      unfold offD at ho
      exact (Bool.or_eq_false_iff.1 ho).1
    exact ⟨(fun h => by rw [hd] at h; cases h), fun h => (by cases h), fun h => absurd rfl h, fun _ => rfl⟩
theorem wrE_not (d : D) (s : ByteArray) (n : Nat) : wrE d s n ≠ 13 := by
  unfold wrE
  split
  · split
    · decide
    · split <;> decide
  · decide
theorem noneE_not (d : D) (s : ByteArray) : noneE d s ≠ 13 := by
  unfold noneE
  split <;> decide
theorem answers_does (d : D) (o : Op1) (h0 : 0 ≤ o.what) (h4 : o.what ≤ 4) : Answers d (doesE d o) (doesD d o) := by
  unfold doesE doesD
  by_cases k0 : o.what = 0
  · rw [if_pos k0, if_pos k0]; exact answers_act _ _ _ (wrE_not _ _ _)
  rw [if_neg k0, if_neg k0]
  by_cases k1 : o.what = 1
  · rw [if_pos k1, if_pos k1]; exact answers_act _ _ _ (wrE_not _ _ _)
  rw [if_neg k1, if_neg k1]
  by_cases k2 : o.what = 2
  · rw [if_pos k2, if_pos k2]
    refine answers_act _ _ _ ?_
    unfold renE
    split
    · exact noneE_not _ _
    · decide
  rw [if_neg k2, if_neg k2]
  by_cases k3 : o.what = 3
  · rw [if_pos k3, if_pos k3]; exact answers_act _ _ _ (noneE_not _ _)
  rw [if_neg k3, if_neg k3]
  rw [if_pos (by omega), if_pos (by omega)]
  exact answers_sync d
theorem files_F {w0 w : World} {F : Nat → Prop} {g : Nat} {d : D} (h : DiskF w0 w F g d) (hsm : Small d) :
    Calls Try.prog 26 #[pt g] w fun r w' => ∃ v, r = .returned v ∧ kFile.R 49 w' w.heap.size (fun _ => True) v d.now ∧ Below w.heap.size w w' := h.look (fun S hS => files_any w _ g S d hS hsm)
/-- A row of the caller's stays while the disk turns. -/
theorem row_stays {w0 w w' : World} {F : Nat → Prop} {v : Value} {l : Files} {base : Nat} (h : kFile.R 49 w base F v l) (k : Turns (Own w0 F) w w') : kFile.R 49 w' base F v l := Kd.R_step h (fun i hi hl => k.block i hl (fun h' => h'.2 hi))
set_option maxRecDepth 100000 in
set_option maxHeartbeats 8000000 in
theorem refused_law (w : World) (room : Int) (wr0 : (Lit.int .i64 room).wf = true) (l : List Op1) (A : Option Addr) (n c : Nat) (h : kOps.K w l [.slice A n c]) (gl : goodOps l) :
    Calls Try.prog 7 #[.int .i64 room, .slice A n c] w fun e w' => e = .returned (.bool true) ∧ Below w.heap.size w w' := by
  obtain ⟨en, lc, hC⟩ := ops_open h
  have hnb : n ≤ 140737488351232 := by have := gl.1; omega
  have HG := Lib.hid gl
  have HC := Lib.hid hC
  have HN := Lib.hid en
  have HRM := Lib.hid (wf_i64 wr0).2
  clear h gl hC en wr0
  go_enter Try.func7, Try.ntmps7
  go_wp2_with fail
  refine (head_any w).mono ?_
  rintro r w1 ⟨rfl, hB1⟩
  have HB1 := Lib.hid hB1
  clear hB1
  go_wp2_with fail
  refine (new_F room w w1 HB1.out (fun _ => False) (fun _ h => h.elim)).mono ?_
  rintro r w2 ⟨g, rfl, hD2, _⟩
  have HD2 := Lib.hid hD2
  clear hD2 HB1
  go_wp2_with fail
  refine (great_any A n c l w2 HN.out hnb (Kd.C_below HC.out HD2.out.hB)).mono ?_
  rintro r w3 ⟨⟨q, rfl, hq⟩, hB3⟩
  have HD3 := Lib.hid (HD2.out.below hB3)
  have HQ := Lib.hid hq
  clear hB3 HD2 hq
  cases q with
  | true =>
    go_wp2_with fail
    go_ret
    exact ⟨rfl, HD3.out.hB⟩
  | false =>
    have hn3 : n ≤ 300 := HQ.out rfl
    have h0 : SmallI 0 (newD room) := SmallI.new room HRM.out
    have H0 := Lib.hid h0
    clear HQ h0
    go_wp2_with fail
    go_loopw [7] (fun v wr => ∃ (i : Nat) (d : D), v = .int .i64 (i : Int) ∧ i ≤ n ∧ DiskF w wr (fun _ => False) g d ∧ SmallI i d) (fun v _ => n - (Lib.intOf v).toNat)
    case atStart => exact ⟨0, _, rfl, Nat.zero_le _, HD3.out, H0.out⟩
    case round =>
      obtain ⟨i, d, rfl, hi, hD, hS⟩ := hrel
      by_cases hin : i < n
      · have d1 : (i : Int) < (n : Int) := by omega
        obtain ⟨o, ho⟩ : ∃ x, l[i]? = some x := ⟨_, List.getElem?_eq_getElem (by have := HN.out; omega)⟩
        have hgo : goodOp o := HG.out.2 o (List.mem_of_getElem? ho)
        have HS := Lib.hid (And.intro (hS.small (by omega)) (And.intro (hS.does o hgo) hgo))
        have HO := Lib.hid ho
        have HD := Lib.hid hD
        have hac := hS.acts
        obtain ⟨ac, hace⟩ : ∃ a, a = d.acts := ⟨_, rfl⟩
        rw [← hace] at hac
        have ha0 := hac.1
        have ha1 : ac ≤ 300 := by have := hac.2; omega
        have HAC := Lib.hid hace
        clear hS ho hD hgo hac hace
        go_wp2_with fail
        refine (files_F HD.out HS.out.1).mono ?_
        rintro r w5 ⟨v5, rfl, hR5, hB5⟩
        have hD5 := HD.out.keep hB5
        obtain ⟨F, hF⟩ : ∃ F, F = Since (fun _ => False) wr w5 := ⟨_, rfl⟩
        rw [← hF] at hD5
        have hR5' : kFile.R 49 w5 wr.heap.size F v5 d.now := Kd.R_mono (Kd.R_bound hR5) (fun k hk => by rw [hF]; exact .inr ⟨hk.2.1, hk.2.2.1⟩)
        have HD5 := Lib.hid hD5
        have HR5 := Lib.hid hR5'
        clear hR5 hB5 hD5 hF hR5' HD
        go_wp2_with fail
        refine (acts_F HD5.out).mono ?_
        rw [← HAC.out]
        rintro r w6 ⟨rfl, e6⟩
        rw [e6]
        clear e6 w6
        go_wp2_with fail
        refine (loose_F HD5.out).mono ?_
        obtain ⟨nc, hnc⟩ : ∃ k, k = d.ch.length := ⟨_, rfl⟩
        rw [← hnc]
        have HNC := Lib.hid hnc
        clear hnc
        rintro r w6 ⟨rfl, e6⟩
        rw [e6]
        clear e6 w6
        go_wp2_with fail
        refine (down_F HD5.out).mono ?_
        obtain ⟨dn, hdn⟩ : ∃ b, b = d.down := ⟨_, rfl⟩
        rw [← hdn]
        have HDN := Lib.hid hdn
        clear hdn
        rintro r w6 ⟨rfl, e6⟩
        rw [e6]
        clear e6 w6
        obtain ⟨ad, Ab, Ak', cb, ck', e, x0, x1, x2, x3, x4, x5, x6⟩ := at_op (Kd.C_below HC.out HD5.out.hB) i hin o HO.out
        subst e
        have hcl := does_G HD5.out HS.out.1 o HS.out.2.2 Ab Ak' cb ck' o.b.length o.keep.length rfl rfl x6
        have hCk := HO.out
        have han := answers_does d o
        obtain ⟨ee, hee⟩ : ∃ e, e = doesE d o := ⟨_, rfl⟩
        obtain ⟨d', hd'⟩ : ∃ d', d' = doesD d o := ⟨_, rfl⟩
        rw [← hee, ← hd'] at hcl han
        have HS' := Lib.hid (show SmallI (i + 1) d' by rw [hd']; exact HS.out.2.1)
        obtain ⟨nb, hnb'⟩ : ∃ q, q = o.b.length := ⟨_, rfl⟩
        obtain ⟨nk', hnk'⟩ : ∃ q, q = o.keep.length := ⟨_, rfl⟩
        obtain ⟨sa, hsa⟩ : ∃ q, q = o.a := ⟨_, rfl⟩
        obtain ⟨st, hst⟩ : ∃ q, q = o.tn := ⟨_, rfl⟩
        obtain ⟨wh, hwh⟩ : ∃ q, q = o.what := ⟨_, rfl⟩
        obtain ⟨nn, hnn⟩ : ∃ q, q = o.n := ⟨_, rfl⟩
        rw [← hwh, ← hsa, ← hst, ← hnb', ← hnk', ← hnn] at hcl
        rw [← hwh] at x0 han
        rw [← hsa] at x1
        rw [← hst] at x2
        rw [← hnb'] at x3
        rw [← hnn] at x4
        rw [← hnk'] at x5
        have HCL := Lib.hid hcl
        have HAN := Lib.hid han
        have HW := Lib.hid hwh
        clear hcl han x6 hee hd' hnb' hnk' hsa hst hwh hnn hCk
        go_wp2_with fail
        refine HCL.out.mono ?_
        rintro r w7 ⟨rfl, hD7, hT7⟩
        have HD7 := Lib.hid hD7
        have HR7 := Lib.hid (row_stays HR5.out hT7)
        obtain ⟨ad', Ab', Ak2, cb', ck2, e', y0, _, _, _, _, _, _⟩ := at_op (Kd.C_below HC.out hD7.hB) i hin o HO.out
        obtain rfl : ad = ad' := Option.some.inj e'
        rw [← HW.out] at y0
        clear hD7 hT7 HCL HR5 HD5 x0 x1 x2 x3 x4 x5 e'
        by_cases h4 : 4 < wh
        · go_wp2_with fail
          refine ⟨⟨i + 1, d', by simp, by omega, HD7.out.less (fun k h => h.elim), HS'.out⟩, ?_⟩
          simp [Lib.intOf]
          omega
        by_cases hneg : wh < 0
        · go_wp2_with fail
          refine ⟨⟨i + 1, d', by simp, by omega, HD7.out.less (fun k h => h.elim), HS'.out⟩, ?_⟩
          simp [Lib.intOf]
          omega
        have HANS := Lib.hid (HAN.out (by omega) (by omega))
        obtain ⟨A5, c5, e5, _, _⟩ := Kd.R_reads HR7.out
        subst e5
        obtain ⟨m, hm⟩ : ∃ m, m = d.now.length := ⟨_, rfl⟩
        have HM := Lib.hid (And.intro hm (show m ≤ 1000000 by rw [hm]; exact HS.out.1.now))
        rw [← hm]
        clear hm HAN
        by_cases he0 : ee = 0
        · subst he0
          have hdn : dn = false := by
            cases hq : dn with
            | false => rfl
            | true =>
              have := HANS.out.down (by rw [← HDN.out]; exact hq)
              cases this
          subst hdn
          have hac2 := HANS.out.yes rfl
          rw [← HAC.out] at hac2
          have HA2 := Lib.hid hac2
          clear hac2
          go_wp2_with fail
          refine (acts_F HD7.out).mono ?_
          rw [HA2.out]
          rintro r w8 ⟨rfl, e8⟩
          rw [e8]
          clear e8 w8
          go_wp2_with fail
          refine ⟨⟨i + 1, d', by simp, by omega, HD7.out.less (fun k h => h.elim), HS'.out⟩, ?_⟩
          simp [Lib.intOf]
          omega
        · have he1 : (ee != 0) = true := by simpa using he0
          have he2 : (ee == 0) = false := by simpa using he0
          have hno := HANS.out.no he0
          have HNO := Lib.hid hno
          clear hno
          by_cases h13 : ee = 13
          · subst h13
            have hdd := HANS.out.gone rfl
            have HDD := Lib.hid hdd
            clear hdd he0
            cases dn with
            | true =>
              go_wp2_with fail
              refine (down_F HD7.out).mono ?_
              rw [HDD.out]
              rintro r w8 ⟨rfl, e8⟩
              rw [e8]
              clear e8 w8
              go_wp2_with fail
              refine (files_F HD7.out (HS'.out.small (by omega))).mono ?_
              rw [HNO.out.1]
              rintro r w8 ⟨v8, rfl, hR8, hB8⟩
              obtain ⟨A8, c8, e8, _, hC8⟩ := Kd.R_reads hR8
              subst e8
              rw [← HM.out.1] at hC8 ⊢
              have hC7 : Kd.C kFile w8 A5 m d.now := by
                have h := (Kd.R_reads' (Kd.R_below HR7.out hB8)).2.2
                rw [← HM.out.1] at h
                exact h
              have HD8 := Lib.hid (HD7.out.below hB8)
              have HSA := Lib.hid (same_true w8 d.now A8 A5 m c8 c5 HM.out.1 HM.out.2 hC8 hC7)
              clear hR8 hB8 hC8 hC7 y0
              go_wp2_with fail
              refine HSA.out.mono ?_
              rintro r w9 ⟨rfl, hB9⟩
              have HD9 := Lib.hid (HD8.out.below hB9)
              clear hB9 HSA HD8
              go_wp2_with fail
              refine (acts_F HD9.out).mono ?_
              rw [HNO.out.2.1, ← HAC.out]
              rintro r wa ⟨rfl, ea⟩
              rw [ea]
              clear ea wa
              go_wp2_with fail
              refine (loose_F HD9.out).mono ?_
              rw [HNO.out.2.2, ← HNC.out]
              rintro r wa ⟨rfl, ea⟩
              rw [ea]
              clear ea wa
              go_wp2_with fail
              refine ⟨⟨i + 1, d', by simp, by omega, HD9.out.less (fun k h => h.elim), HS'.out⟩, ?_⟩
              simp [Lib.intOf]
              omega
            | false =>
              go_wp2_with fail
              refine (down_F HD7.out).mono ?_
              rw [HDD.out]
              rintro r w8 ⟨rfl, e8⟩
              rw [e8]
              clear e8 w8
              go_wp2_with fail
              refine (files_F HD7.out (HS'.out.small (by omega))).mono ?_
              rw [HNO.out.1]
              rintro r w8 ⟨v8, rfl, hR8, hB8⟩
              obtain ⟨A8, c8, e8, _, hC8⟩ := Kd.R_reads hR8
              subst e8
              rw [← HM.out.1] at hC8 ⊢
              have hC7 : Kd.C kFile w8 A5 m d.now := by
                have h := (Kd.R_reads' (Kd.R_below HR7.out hB8)).2.2
                rw [← HM.out.1] at h
                exact h
              have HD8 := Lib.hid (HD7.out.below hB8)
              have HSA := Lib.hid (same_true w8 d.now A8 A5 m c8 c5 HM.out.1 HM.out.2 hC8 hC7)
              clear hR8 hB8 hC8 hC7 y0
              go_wp2_with fail
              refine HSA.out.mono ?_
              rintro r w9 ⟨rfl, hB9⟩
              have HD9 := Lib.hid (HD8.out.below hB9)
              clear hB9 HSA HD8
              go_wp2_with fail
              refine (acts_F HD9.out).mono ?_
              rw [HNO.out.2.1, ← HAC.out]
              rintro r wa ⟨rfl, ea⟩
              rw [ea]
              clear ea wa
              go_wp2_with fail
              refine (loose_F HD9.out).mono ?_
              rw [HNO.out.2.2, ← HNC.out]
              rintro r wa ⟨rfl, ea⟩
              rw [ea]
              clear ea wa
              go_wp2_with fail
              refine ⟨⟨i + 1, d', by simp, by omega, HD9.out.less (fun k h => h.elim), HS'.out⟩, ?_⟩
              simp [Lib.intOf]
              omega
          · have hdn : dn = false := by
              cases hq : dn with
              | false => rfl
              | true => exact absurd (HANS.out.down (by rw [← HDN.out]; exact hq)) h13
            subst hdn
            have h3 : (ee == 13) = false := by simpa using h13
            clear h13 he0
            go_wp2_with fail
            refine (files_F HD7.out (HS'.out.small (by omega))).mono ?_
            rw [HNO.out.1]
            rintro r w8 ⟨v8, rfl, hR8, hB8⟩
            obtain ⟨A8, c8, e8, _, hC8⟩ := Kd.R_reads hR8
            subst e8
            rw [← HM.out.1] at hC8 ⊢
            have hC7 : Kd.C kFile w8 A5 m d.now := by
              have h := (Kd.R_reads' (Kd.R_below HR7.out hB8)).2.2
              rw [← HM.out.1] at h
              exact h
            have HD8 := Lib.hid (HD7.out.below hB8)
            have HSA := Lib.hid (same_true w8 d.now A8 A5 m c8 c5 HM.out.1 HM.out.2 hC8 hC7)
            clear hR8 hB8 hC8 hC7 y0
            go_wp2_with fail
            refine HSA.out.mono ?_
            rintro r w9 ⟨rfl, hB9⟩
            have HD9 := Lib.hid (HD8.out.below hB9)
            clear hB9 HSA HD8
            go_wp2_with fail
            refine (acts_F HD9.out).mono ?_
            rw [HNO.out.2.1, ← HAC.out]
            rintro r wa ⟨rfl, ea⟩
            rw [ea]
            clear ea wa
            go_wp2_with fail
            refine (loose_F HD9.out).mono ?_
            rw [HNO.out.2.2, ← HNC.out]
            rintro r wa ⟨rfl, ea⟩
            rw [ea]
            clear ea wa
            go_wp2_with fail
            refine ⟨⟨i + 1, d', by simp, by omega, HD9.out.less (fun k h => h.elim), HS'.out⟩, ?_⟩
            simp [Lib.intOf]
            omega
      · have d1 : ¬ (i : Int) < (n : Int) := by omega
        have HDe := Lib.hid hD.hB
        clear hD hS
        go_wp2_with fail
        go_ret
        exact ⟨rfl, HDe.out⟩
end Go.Proofs.Ytbfpmlblnfablaa
