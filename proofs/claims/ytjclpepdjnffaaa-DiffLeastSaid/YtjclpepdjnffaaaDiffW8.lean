/- The walks of slices.Grow (of nil) and slices.Concat. -/
import Derived.Test.YtjclpepdjnffaaaDiffF
import Derived.Test.YtjclpepdjnffaaaPDiffTellsx0
import Derived.Lib.AppendZerosOnto
import Derived.Lib.AppendZeros
set_option linter.unusedVariables false
set_option linter.unusedSimpArgs false
namespace Go.Proofs.Ytjclpepdjnffaaa
open Go.RowKit Go.Proofs.YtjclpepdjnffaaaW.PrintWords Go.Proofs.YtjclpepdjnffaaaW.PrintLast Go.Proofs.Ytjclpepdjnffaaa.PDiffTells

set_option maxRecDepth 100000 in
set_option maxHeartbeats 4000000 in
theorem grow_any (n : Nat) (w : World) (hn : n ≤ 1000000000) : Calls Try.prog 30 #[.slice none 0 0, .int .i64 (n : Int)] w fun e w' => ∃ v, e = .returned v ∧ Kd.string.R 9 w' w.heap.size (fun _ => True) v [] ∧ Below w.heap.size w w' := by
  have h1 : ¬ ((n : Int) < 0) := by omega
  by_cases h0 : n = 0
  · subst h0
    go_enter Try.func30, Try.ntmps30
    go_wp2_with fail
    go_ret
    exact ⟨_, rfl, Kd.R_nil _ _ _ _ _, Below.refl _ _⟩
  · obtain ⟨i0, hi, hzz⟩ := Option.map_eq_some_iff.1 infoS
    simp only [Prod.mk.injEq] at hzz
    obtain ⟨hz0, hz1, hz2⟩ := hzz
    have h4 : (n : Int) > 0 := by omega
    have hrz : ∀ ty, (Builtin.append_ #[22, 3] ty #[.slice none 0 0, .int .i64 (n : Int)]).run Try.prog w =
        .ok (.slice (some ⟨w.heap.size, 0, none⟩) n (grownCap w n 0 9)) (w.drew.alloc (.cells (Builtin.zeroCells #[.string ⟨#[]⟩] n ++ Builtin.zeroCells #[.string ⟨#[]⟩] (grownCap w n 0 9 - n)) 9)) := fun ty => by
      have h := Lib.run_append_grow_zeros w 22 3 ty 9 i0 (.string ⟨#[]⟩) .i64 .i64 Try.underlying22 Try.underlying3 hi hz0 none 0 0 [] (run_firstCells_none w.drew i0.size 0 0 0) n (by omega) (by rw [hz1]; decide) (by omega) (by omega)
        (by rw [hz2]; omega) (by rw [Nat.zero_add]; exact growslice_fits (by omega) (by rw [hz2]; omega))
      rw [Nat.zero_add] at h
      rw [show (Value.string ⟨#[]⟩).cells = #[Value.string ⟨#[]⟩] from rfl] at h
      simpa using h
    have hGn : n ≤ grownCap w n 0 9 := grownCap_ge w _ _ _
    have hGm := grownCap_le_maxLen w n 0 9 (by unfold maxLen; omega)
    obtain ⟨G, hG⟩ : ∃ G, G = grownCap w n 0 9 := ⟨_, rfl⟩
    rw [← hG] at hrz hGn hGm
    have hsz : (Builtin.zeroCells #[.string ⟨#[]⟩] n ++ Builtin.zeroCells #[.string ⟨#[]⟩] (G - n)).size = G := by
      simp [Builtin.zeroCells]; omega
    generalize Builtin.zeroCells #[.string ⟨#[]⟩] n ++ Builtin.zeroCells #[.string ⟨#[]⟩] (G - n) = Z at hrz hsz
    have HZ := Lib.hid (And.intro hsz hGm)
    clear hG hsz hGm hi hz0 hz1 hz2
    go_enter Try.func30, Try.ntmps30
    go_wp2_with (at_builtin; refine Lib.wpList_append_run _ rfl _ _ _ _ rfl _ _ rfl rfl _ _ (hrz _) ?_)
    go_ret
    refine ⟨_, rfl, ⟨fun _ _ => trivial, [], ?_, Reps.none _ _⟩, (Below.refl w.heap.size w).drew.alloc (Nat.le_refl _) _⟩
    exact World.ownsRow_made (base := w.heap.size) (e := 9) (size := 1) w.drew Z G (Nat.le_refl _) HZ.out.2 (by rw [HZ.out.1]; omega)

def lens (l : List (List ByteArray)) : Nat := (l.map List.length).sum
theorem lens_take (l : List (List ByteArray)) (j : Nat) (h : j < l.length) : lens (l.take (j + 1)) = lens (l.take j) + l[j].length := by
  unfold lens
  rw [List.take_succ_eq_append_getElem h, List.map_append, List.sum_append]
  simp
theorem lens_flatten (l : List (List ByteArray)) : l.flatten.length = lens l := by
  unfold lens
  rw [List.length_flatten]
theorem lens_le (l : List (List ByteArray)) (j : Nat) : lens (l.take j) ≤ lens l := by
  conv => rhs; rw [← List.take_append_drop j l]
  unfold lens
  rw [List.map_append, List.sum_append]
  omega
theorem rdL_nat (l : List (List ByteArray)) (i : Nat) (h : i < l.length) : rd_L1 l (i : Int) = l[i] := by
  unfold rd_L1
  rw [Int.toNat_natCast, List.getD_eq_getElem?_getD, List.getElem?_eq_getElem h]
  rfl
set_option maxRecDepth 100000 in
set_option maxHeartbeats 4000000 in
theorem concat_any (n c : Nat) (S : Option Addr) (l : List (List ByteArray)) (w : World) (hn : l.length = n) (hS : Kd.C (Kd.slice 9 Kd.string) w S n l) (hb : lens l ≤ 1000000000) (hn2 : n ≤ 1000) :
    Calls Try.prog 26 #[.slice S n c] w fun e w' => ∃ v, e = .returned v ∧ Kd.string.R 9 w' w.heap.size (fun _ => True) v l.flatten ∧ Below w.heap.size w w' := by
  have HS := Lib.hid hS
  have HN := Lib.hid hn
  clear hS hn
  go_enter Try.func26, Try.ntmps26
  go_wp2_with fail
  go_loopw [3, 11] (fun v3 v wr => ∃ j : Nat, j ≤ n ∧ v = .int .i64 j ∧ v3 = .int .i64 ((lens (l.take j) : Nat) : Int) ∧ w = wr) (fun _ v _ => n - (intOf v).toNat)
  case atStart => exact ⟨0, by omega, rfl, by simp [lens], rfl⟩
  case round =>
    obtain ⟨j, hj, rfl, rfl, rfl⟩ := hrel
    by_cases hjn : j < n
    · have d1 : (j : Int) < (n : Int) := by omega
      obtain ⟨ad, A0, c0, rfl, g1, g2, g3⟩ := at_L1 HS.out (j : Int) (by omega) (by omega)
      rw [rdL_nat _ _ (by rw [HN.out]; exact hjn), Int.toNat_natCast] at g1
      have ht := lens_take l j (by rw [HN.out]; exact hjn)
      have hle := lens_le l (j + 1)
      obtain ⟨X, hX⟩ : ∃ X, X = lens (l.take j) := ⟨_, rfl⟩
      obtain ⟨Y, hY⟩ : ∃ Y, Y = (l[j]'(by rw [HN.out]; exact hjn)).length := ⟨_, rfl⟩
      rw [← hX, ← hY] at ht
      rw [← hY] at g1
      rw [← hX]
      have hb1 : (X : Int) + (Y : Int) ≤ 1000000000 := by omega
      have hb2 : ¬ (X : Int) + (Y : Int) < 0 := by omega
      have HT := Lib.hid ht
      clear ht hle hX hY g2 g3
      go_wp2_with fail
      exact ⟨⟨j + 1, by omega, by go_num, by rw [HT.out]; go_num, trivial⟩, by simp [intOf]; omega⟩
    · obtain rfl : j = n := by omega
      rw [List.take_of_length_le (by rw [HN.out]; exact Nat.le_refl _)]
      go_wp2_with fail
      refine (grow_any (lens l) w hb).mono ?_
      rintro e w1 ⟨v0, rfl, hR, hB⟩
      have HR := Lib.hid hR
      have HB := Lib.hid hB
      clear hR hB
      go_wp2_with fail
      go_loopw [6, 27] (fun v6 v w2 => ∃ j' : Nat, j' ≤ j ∧ v = .int .i64 j' ∧ Kd.string.R 9 w2 w.heap.size (fun _ => True) v6 (l.take j').flatten ∧ Below w.heap.size w w2) (fun _ v _ => j - (intOf v).toNat)
      case atStart => exact ⟨0, by omega, rfl, by simpa using HR.out, HB.out⟩
      case round =>
        obtain ⟨m, hm, rfl, hR2, hB2⟩ := hrel
        have HR2 := Lib.hid hR2
        have HB2 := Lib.hid hB2
        clear hR2 hB2 HR HB
        by_cases hmj : m < j
        · have d2 : (m : Int) < (j : Int) := by omega
          obtain ⟨ad, A0, c0, rfl, g1, g2, g3⟩ := at_L1 (Kd.C_below HS.out HB2.out) (m : Int) (by omega) (by omega)
          rw [rdL_nat _ _ (by rw [HN.out]; exact hmj)] at g1 g2 g3
          rw [Int.toNat_natCast] at g1
          have ht := lens_take l m (by rw [HN.out]; exact hmj)
          have hle := lens_le l (m + 1)
          have hfl : (l.take m).flatten.length = lens (l.take m) := lens_flatten _
          have hnx : (l.take (m + 1)).flatten = (l.take m).flatten ++ l[m]'(by rw [HN.out]; exact hmj) := by rw [List.take_succ_eq_append_getElem (by rw [HN.out]; exact hmj), List.flatten_append]; simp
          obtain ⟨row, hrow⟩ : ∃ row, row = l[m]'(by rw [HN.out]; exact hmj) := ⟨_, rfl⟩
          rw [← hrow] at g1 g2 g3 ht hnx
          have hbb : (l.take m).flatten.length + row.length ≤ 1000000000 := by rw [hfl]; omega
          have HG3 := Lib.hid g3
          have HX := Lib.hid (And.intro hbb hnx)
          clear ht hle hfl hnx hrow hbb g3
          have hszr := HB2.out.size
          go_wp2_with (at_builtin; go_loud (refine Kd.R_append_rows (w0 := w) Kd.string (Rr := fun x cs => cs = [.string x]) w.heap.size rfl _ _ 22 9 (.string ⟨#[]⟩) 16 rfl Try.underlying22 infoS rfl (by decide) (by decide) u6 (l.take m).flatten row A0 row.length c0 (fun _ => True) (fun _ => False) rfl rfl HR2.out HG3.out (fun x cs h => h) (fun _ h => h.elim) (fun _ _ => trivial) HB2.out hszr (by have := HX.out.1; omega) ?_))
          intro v1 w3 hR3 hB3 _ _
          rw [← HX.out.2] at hR3
          obtain ⟨Av, cv, rfl, _, _, _⟩ := R_addr hR3
          have HR3 := Lib.hid hR3
          have HB3 := Lib.hid hB3
          clear hR3 hB3
          go_wp2_with fail
          exact ⟨⟨m + 1, by omega, by go_num, HR3.out, HB3.out⟩, by simp [intOf]; omega⟩
        · obtain rfl : m = j := by omega
          rw [List.take_of_length_le (by rw [HN.out]; exact Nat.le_refl _)] at HR2
          go_wp2_with fail
          go_ret
          exact ⟨_, rfl, HR2.out, HB2.out⟩
end Go.Proofs.Ytjclpepdjnffaaa
