/- The walk of Apply. -/
import Derived.Test.YtjclpepdjnffaaaDiffW8
import Derived.Test.YtjclpepdjnffaaaDiffC
set_option linter.unusedVariables false
set_option linter.unusedSimpArgs false
namespace Go.Proofs.Ytjclpepdjnffaaa
open Go.RowKit Go.Proofs.YtjclpepdjnffaaaW.PrintWords Go.Proofs.YtjclpepdjnffaaaW.PrintLast Go.Proofs.Ytjclpepdjnffaaa.PDiffTells

/-- What a hunk makes, its place a whole number. -/
def appliedI (x : List ByteArray) (p : Int) (old new : List ByteArray) : Option (List ByteArray) := if 0 ≤ p then applied x ⟨p.toNat, old, new⟩ else none
theorem appliedI_nat (x : List ByteArray) (p : Nat) (old new : List ByteArray) : appliedI x (p : Int) old new = applied x ⟨p, old, new⟩ := by
  unfold appliedI
  rw [if_pos (by omega), Int.toNat_natCast]
theorem appliedI_low (x : List ByteArray) (p : Int) (old new : List ByteArray) (h : p < 0) : appliedI x p old new = none := by
  unfold appliedI
  rw [if_neg (by omega)]
theorem applied_far (x : List ByteArray) (p : Nat) (old new : List ByteArray) (h : x.length < p + old.length) : applied x ⟨p, old, new⟩ = none := by
  unfold applied
  rw [if_neg (fun hh => by have := hh.1; simp only at this; omega)]
theorem applied_in (x : List ByteArray) (p : Nat) (old new : List ByteArray) (h : p + old.length ≤ x.length) : applied x ⟨p, old, new⟩ = if (x.take (p + old.length)).drop p = old then some (x.take p ++ new ++ x.drop (p + old.length)) else none := by
  unfold applied
  have e : (x.take (p + old.length)).drop p = (x.drop p).take old.length := by rw [List.drop_take, Nat.add_sub_cancel_left]
  rw [e]
  by_cases hh : (x.drop p).take old.length = old
  · rw [if_pos hh, if_pos ⟨h, hh⟩]
  · rw [if_neg hh, if_neg (fun z => hh z.2)]
def keepA (wr w' : World) (b : Nat) (x y z : Value) : Prop := Below wr.heap.size wr w' ∧ w'.cell? ⟨b, 0, none⟩ = some x ∧ w'.cell? ⟨b, 1, none⟩ = some y ∧ w'.cell? ⟨b, 2, none⟩ = some z
theorem keepA_below {wr w' w'' : World} {b : Nat} {x y z : Value} (h : keepA wr w' b x y z) (hB : Below w'.heap.size w' w'') : keepA wr w'' b x y z :=
  ⟨below_then h.1 h.1.size hB, pw_cell_below hB h.2.1, pw_cell_below hB h.2.2.1, pw_cell_below hB h.2.2.2⟩
theorem three_C {W : World} {b : Nat} {t : TypeId} {A1 A2 A3 : Option Addr} {n1 n2 n3 c1 c2 c3 : Nat} {l1 l2 l3 : List ByteArray} (h : W.heap[b]? = some (.cells #[.slice A1 n1 c1, .slice A2 n2 c2, .slice A3 n3 c3] t (0, 0)))
    (e1 : l1.length = n1) (k1 : n1 ≤ c1) (e2 : l2.length = n2) (k2 : n2 ≤ c2) (e3 : l3.length = n3) (k3 : n3 ≤ c3) (g1 : Kd.string.C W A1 n1 l1) (g2 : Kd.string.C W A2 n2 l2) (g3 : Kd.string.C W A3 n3 l3) :
    Kd.C (Kd.slice 9 Kd.string) W (some ⟨b, 0, none⟩) 3 [l1, l2, l3] := by
  subst e1
  subst e2
  subst e3
  refine ⟨rfl, by decide, fun _ => ⟨_, rfl, fun j p hj => ?_⟩⟩
  match j, hj with
  | 0, hj =>
    obtain rfl := Option.some.inj hj
    exact ⟨[_], rfl, ⟨A1, c1, rfl, k1, g1⟩, fun k u hk => by
      match k, hk with
      | 0, hk => obtain rfl := Option.some.inj hk; exact blk_cell h 0⟩
  | 1, hj =>
    obtain rfl := Option.some.inj hj
    exact ⟨[_], rfl, ⟨A2, c2, rfl, k2, g2⟩, fun k u hk => by
      match k, hk with
      | 0, hk => obtain rfl := Option.some.inj hk; exact blk_cell h 1⟩
  | 2, hj =>
    obtain rfl := Option.some.inj hj
    exact ⟨[_], rfl, ⟨A3, c3, rfl, k3, g3⟩, fun k u hk => by
      match k, hk with
      | 0, hk => obtain rfl := Option.some.inj hk; exact blk_cell h 2⟩
theorem keepA_b {wr w' : World} {b : Nat} {x y z : Value} (h : keepA wr w' b x y z) : Below wr.heap.size wr w' := h.1
theorem equal_x (m0 m1 c0 c1 : Nat) (l0 l1 : List ByteArray) (A0 A1 : Option Addr) (w : World) (h0 : l0.length = m0) (h1 : l1.length = m1) (g0 : Kd.string.C w A0 m0 l0) (k0 : m0 ≤ c0) (g1 : Kd.string.C w A1 m1 l1) (k1 : m1 ≤ c1) (hb : m0 < 4611686018427387904) :
    Calls Try.prog 25 #[.slice A0 m0 c0, .slice A1 m1 c1] w fun e w' => e = .returned (.bool (decide (l0 = l1))) ∧ Below w.heap.size w w' := by
  subst h0
  subst h1
  refine (slices_Equal_string_string.calls (l0.length + 1) A0 c0 l0 A1 c1 l1 _ w g0 k0 g1 k1 (equal_f l0 l1 hb _ (by omega))).mono ?_
  rintro e w' ⟨rfl, hD⟩
  exact ⟨rfl, hD.below⟩
theorem mid_C {w : World} {A : Option Addr} {n q no c : Nat} {x : List ByteArray} (h : Kd.string.C w A n x) (hn : x.length = n) (hq : q + no ≤ n) (hc : n ≤ c) :
    Kd.string.C w (if c = q then A else Option.map (fun x => x.add q) A) (((q : Int) + (no : Int)).toNat - q) ((x.take (q + no)).drop q) := by
  subst hn
  have := Kd.C_mid h (lo := q) (hi := q + no) (by omega) hq hc
  rw [show q * Kd.string.sz = q from Nat.mul_one q] at this
  rw [show ((q : Int) + (no : Int)).toNat - q = ((x.take (q + no)).drop q).length by rw [List.length_drop, List.length_take]; omega]
  exact this
set_option maxRecDepth 100000 in
set_option maxHeartbeats 8000000 in
theorem apply_n (n no nn c co cn : Nat) (w : World) (A Ao An : Option Addr) (x old new : List ByteArray) (p : Int) (hn : x.length = n) (hno : old.length = no) (hnn : new.length = nn) (hA : Kd.string.C w A n x) (hc : n ≤ c) (hO : Kd.string.C w Ao no old) (hco : no ≤ co) (hN : Kd.string.C w An nn new) (hcn : nn ≤ cn)
    (b1 : n ≤ 100000000) (b2 : no ≤ 100000000) (b3 : nn ≤ 100000000) :
    Calls Try.prog 14 #[.slice A n c, .agg #[.int .i64 p, .slice Ao no co, .slice An nn cn]] w fun e w' => ∃ v, e = .returned (.tuple #[v, .bool (appliedI x p old new).isSome]) ∧ Kd.string.R 9 w' w.heap.size (fun _ => True) v ((appliedI x p old new).getD []) ∧ Below w.heap.size w w' := by
  have HA := Lib.hid hA
  have HO := Lib.hid hO
  have HN := Lib.hid hN
  have HL := Lib.hid (And.intro hn (And.intro hno hnn))
  clear hA hO hN hn hno hnn
  by_cases hp : p < 0
  · rw [appliedI_low _ _ _ _ hp]
    go_enter Try.func14, Try.ntmps14
    go_wp2_with fail
    go_ret2
    exact ⟨_, rfl, Kd.R_nil _ _ _ _ _, (Below.refl _ _).alloc (Nat.le_refl _) _⟩
  · obtain ⟨q, rfl⟩ : ∃ q : Nat, p = (q : Int) := ⟨p.toNat, by omega⟩
    rw [appliedI_nat]
    by_cases hfar : n < q
    · have d2 : (q : Int) > (n : Int) := by omega
      rw [applied_far _ _ _ _ (by rw [HL.out.1]; omega)]
      go_enter Try.func14, Try.ntmps14
      go_wp2_with fail
      go_ret2
      exact ⟨_, rfl, Kd.R_nil _ _ _ _ _, (Below.refl _ _).alloc (Nat.le_refl _) _⟩
    · have d2 : ¬ (q : Int) > (n : Int) := by omega
      by_cases hlong : n < q + no
      · have d3 : (no : Int) > (n : Int) - (q : Int) := by omega
        rw [applied_far _ _ _ _ (by rw [HL.out.1, HL.out.2.1]; omega)]
        go_enter Try.func14, Try.ntmps14
        go_wp2_with fail
        go_ret2
        exact ⟨_, rfl, Kd.R_nil _ _ _ _ _, (Below.refl _ _).alloc (Nat.le_refl _) _⟩
      · have d3 : ¬ (no : Int) > (n : Int) - (q : Int) := by omega
        rw [applied_in _ _ _ _ (by rw [HL.out.1, HL.out.2.1]; omega), HL.out.2.1]
        by_cases heq : (x.take (q + no)).drop q = old
        · rw [if_pos heq]
          have HEQ := Lib.hid heq
          clear heq
          go_enter Try.func14, Try.ntmps14
          go_wp2_with fail
          obtain ⟨W0, hW0⟩ : ∃ W0, W0 = w.alloc (.cells #[.int .i64 (q : Int), .slice Ao no co, .slice An nn cn] 24) := ⟨_, rfl⟩
          have hBW : Below w.heap.size w W0 := by rw [hW0]; exact (Below.refl _ _).alloc (Nat.le_refl _) _
          have hblk : W0.heap[w.heap.size]? = some (.cells #[.int .i64 (q : Int), .slice Ao no co, .slice An nn cn] 24 (0, 0)) := by rw [hW0]; exact heap_alloc_new _ _
          rw [← hW0]
          obtain ⟨k0, k1, k2⟩ := head_cells hblk
          have hS : keepA W0 W0 w.heap.size (.int .i64 (q : Int)) (.slice Ao no co) (.slice An nn cn) := ⟨Below.refl _ _, k0, k1, k2⟩
          have HBW := Lib.hid hBW
          clear hW0 hBW hblk k0 k1 k2
          have hq1 : q ≤ n := by omega
          have hq2 : q + no ≤ n := by omega
          have hq3 : (q : Int) ≤ (q : Int) + (no : Int) := by omega
          have hq4 : (q : Int) + (no : Int) ≤ (n : Int) := by omega
          have hq5 : (q : Int) + (no : Int) ≤ (c : Int) := by omega
          refine start_ (S := fun w' => keepA W0 w' w.heap.size (.int .i64 (q : Int)) (.slice Ao no co) (.slice An nn cn)) (ds := [8]) (n := 9) #[false, false, false, false, false, false, false, false, false] rfl rfl rfl ?hS0 (fun hHeld => ?hrun)
          case hS0 => exact keepA_below hS ((Below.refl _ _).drew)
          case hrun =>
            refine pure_ (i := 0) (N := some 34) (v := ?_) (a' := ?_) #[true, false, false, false, false, false, false, false, false] rfl rfl (by kernel_rfl) (fun _ _ _ h => h) (Or.inl ⟨by rfl, ?_⟩) ?_ ?_
            rotate_left
            · intro w'
              go_simp
              first | done | with_reducible rfl
            rotate_left
            · simp only [Act.put, List.setIfInBounds_toArray, List.set_cons_zero, List.set_cons_succ, i64_w, i32_w]
              rfl
            refine pure_ (i := 1) (N := some 35) (v := ?_) (a' := ?_) #[true, true, false, false, false, false, false, false, false] rfl rfl (by kernel_rfl) (fun _ _ _ h => h) (Or.inl ⟨by rfl, ?_⟩) ?_ ?_
            rotate_left
            · intro w'
              go_simp
              first | done | with_reducible rfl
            rotate_left
            · simp only [Act.put, List.setIfInBounds_toArray, List.set_cons_zero, List.set_cons_succ, i64_w, i32_w]
              rfl
            refine take_ (i := 2) (N := some 36) (v := ?_) (a' := ?_) #[true, true, true, false, false, false, false, false, false] rfl rfl (by kernel_rfl) (fun _ _ _ h => h) (Or.inl ⟨by rfl, ?_⟩) hHeld ?_ ?_
            rotate_left
            · rintro w' ⟨hbe, s0, s1, s2⟩
              go_simp
              first | done | with_reducible rfl
            rotate_left
            · simp only [Act.put, List.setIfInBounds_toArray, List.set_cons_zero, List.set_cons_succ, i64_w, i32_w]
              rfl
            refine pure_ (i := 3) (N := some 37) (v := ?_) (a' := ?_) #[true, true, true, true, false, false, false, false, false] rfl rfl (by kernel_rfl) (fun _ _ _ h => h) (Or.inl ⟨by rfl, ?_⟩) ?_ ?_
            rotate_left
            · intro w'
              go_simp
              first | done | with_reducible rfl
            rotate_left
            · simp only [Act.put, List.setIfInBounds_toArray, List.set_cons_zero, List.set_cons_succ, i64_w, i32_w]
              rfl
            refine pure_ (i := 4) (N := some 38) (v := ?_) (a' := ?_) #[true, true, true, true, true, false, false, false, false] rfl rfl (by kernel_rfl) (fun _ _ _ h => h) (Or.inl ⟨by rfl, ?_⟩) ?_ ?_
            rotate_left
            · intro w'
              go_simp
              first | done | with_reducible rfl
            rotate_left
            · simp only [Act.put, List.setIfInBounds_toArray, List.set_cons_zero, List.set_cons_succ, i64_w, i32_w]
              rfl
            refine pure_ (i := 5) (N := some 39) (v := ?_) (a' := ?_) #[true, true, true, true, true, true, false, false, false] rfl rfl (by kernel_rfl) (fun _ _ _ h => h) (Or.inl ⟨by rfl, ?_⟩) ?_ ?_
            rotate_left
            · intro w'
              go_simp
              first | done | with_reducible rfl
            rotate_left
            · simp only [Act.put, List.setIfInBounds_toArray, List.set_cons_zero, List.set_cons_succ, i64_w, i32_w]
              rfl
            refine take_ (i := 6) (N := some 40) (v := ?_) (a' := ?_) #[true, true, true, true, true, true, true, false, false] rfl rfl (by kernel_rfl) (fun _ _ _ h => h) (Or.inl ⟨by rfl, ?_⟩) hHeld ?_ ?_
            rotate_left
            · rintro w' ⟨hbe, s0, s1, s2⟩
              go_simp
              first | done | with_reducible rfl
            rotate_left
            · simp only [Act.put, List.setIfInBounds_toArray, List.set_cons_zero, List.set_cons_succ, i64_w, i32_w]
              rfl
            refine one_ (i := 7) (N := some 41) #[true, true, true, true, true, true, true, true, false] rfl rfl (by kernel_rfl) (by decide) (fun K hK => ?_)
            refine goes_ Try.func25 (by kernel_rfl) rfl #[.slice (if c = q then A else Option.map (fun x => x.add q) A) (((q : Int) + (no : Int)).toNat - q) (c - q), .slice Ao no co] (by rfl) rfl rfl (by (try simp only [List.map_toArray, List.map_cons, List.map_nil]); first | done | rfl) ?_
            refine (equal_x _ _ _ _ ((x.take (q + no)).drop q) old _ _ _ (by rw [List.length_drop, List.length_take, HL.out.1]; omega) HL.out.2.1 (mid_C (Kd.C_below HA.out (below_then HBW.out HBW.out.size (keepA_b hHeld))) HL.out.1 hq2 hc) (by omega) (Kd.C_below HO.out (below_then HBW.out HBW.out.size (keepA_b hHeld))) hco (by omega)).mono ?_
            rintro e w' ⟨rfl, hB⟩
            have HK := Lib.hid (keepA_below hHeld hB)
            refine ⟨_, rfl, ?_⟩
            refine hK.out _ _ (keepA_below hHeld hB) (fun hHeld1 => ?_)
            clear hK K
            refine norm_ (a' := ?_) ?_ ?_
            rotate_left
            · show Act.put _ (some 41) _ = _
              simp only [Act.put, List.setIfInBounds_toArray, List.set_cons_zero, List.set_cons_succ, i64_w, i32_w]
              rfl
            refine tail_list 8 (t := [8]) (fuel := 0) rfl rfl rfl (by kernel_rfl) (by decide) ?_
            clear hHeld hHeld1 hS
            generalize hAQ : (if c = q then A else Option.map (fun x => x.add q) A) = AQ at *
            clear hAQ
            rw [decide_eq_true HEQ.out]
            obtain ⟨hBK, k0, k1, k2⟩ := HK.out
            go_wp2_with fail
            have hqc : q ≤ c := by omega
            have hq0 : (0 : Int) ≤ (q : Int) + (no : Int) := by omega
            have hnt : ((q : Int) + (no : Int)).toNat = q + no := by omega
            have hS : keepA W0 w' w.heap.size (.int .i64 (q : Int)) (.slice Ao no co) (.slice An nn cn) := HK.out
            clear k0 k1 k2
            refine start_ (S := fun w' => keepA W0 w' w.heap.size (.int .i64 (q : Int)) (.slice Ao no co) (.slice An nn cn)) (ds := [10, 11, 12]) (n := 13) #[false, false, false, false, false, false, false, false, false, false, false, false, false] rfl rfl rfl ?hS0 (fun hHeld => ?hrun)
            case hS0 => exact keepA_below hS ((Below.refl _ _).drew)
            case hrun =>
              refine pure_ (i := 0) (N := some 43) (v := ?_) (a' := ?_) #[true, false, false, false, false, false, false, false, false, false, false, false, false] rfl rfl (by kernel_rfl) (fun _ _ _ h => h) (Or.inl ⟨by rfl, ?_⟩) ?_ ?_
              rotate_left
              · intro w'
                go_simp
                first | done | with_reducible rfl
              rotate_left
              · simp only [Act.put, List.setIfInBounds_toArray, List.set_cons_zero, List.set_cons_succ, i64_w, i32_w]
                rfl
              refine pure_ (i := 1) (N := some 44) (v := ?_) (a' := ?_) #[true, true, false, false, false, false, false, false, false, false, false, false, false] rfl rfl (by kernel_rfl) (fun _ _ _ h => h) (Or.inl ⟨by rfl, ?_⟩) ?_ ?_
              rotate_left
              · intro w'
                go_simp
                first | done | with_reducible rfl
              rotate_left
              · simp only [Act.put, List.setIfInBounds_toArray, List.set_cons_zero, List.set_cons_succ, i64_w, i32_w]
                rfl
              refine take_ (i := 2) (N := some 45) (v := ?_) (a' := ?_) #[true, true, true, false, false, false, false, false, false, false, false, false, false] rfl rfl (by kernel_rfl) (fun _ _ _ h => h) (Or.inl ⟨by rfl, ?_⟩) hHeld ?_ ?_
              rotate_left
              · rintro w' ⟨hbe, s0, s1, s2⟩
                go_simp
                first | done | with_reducible rfl
              rotate_left
              · simp only [Act.put, List.setIfInBounds_toArray, List.set_cons_zero, List.set_cons_succ, i64_w, i32_w]
                rfl
              refine pure_ (i := 3) (N := some 46) (v := ?_) (a' := ?_) #[true, true, true, true, false, false, false, false, false, false, false, false, false] rfl rfl (by kernel_rfl) (fun _ _ _ h => h) (Or.inl ⟨by rfl, ?_⟩) ?_ ?_
              rotate_left
              · intro w'
                go_simp
                first | done | with_reducible rfl
              rotate_left
              · simp only [Act.put, List.setIfInBounds_toArray, List.set_cons_zero, List.set_cons_succ, i64_w, i32_w]
                rfl
              refine pure_ (i := 4) (N := some 47) (v := ?_) (a' := ?_) #[true, true, true, true, true, false, false, false, false, false, false, false, false] rfl rfl (by kernel_rfl) (fun _ _ _ h => h) (Or.inl ⟨by rfl, ?_⟩) ?_ ?_
              rotate_left
              · intro w'
                go_simp
                first | done | with_reducible rfl
              rotate_left
              · simp only [Act.put, List.setIfInBounds_toArray, List.set_cons_zero, List.set_cons_succ, i64_w, i32_w]
                rfl
              refine take_ (i := 5) (N := some 48) (v := ?_) (a' := ?_) #[true, true, true, true, true, true, false, false, false, false, false, false, false] rfl rfl (by kernel_rfl) (fun _ _ _ h => h) (Or.inl ⟨by rfl, ?_⟩) hHeld ?_ ?_
              rotate_left
              · rintro w' ⟨hbe, s0, s1, s2⟩
                go_simp
                first | done | with_reducible rfl
              rotate_left
              · simp only [Act.put, List.setIfInBounds_toArray, List.set_cons_zero, List.set_cons_succ, i64_w, i32_w]
                rfl
              refine pure_ (i := 6) (N := some 49) (v := ?_) (a' := ?_) #[true, true, true, true, true, true, true, false, false, false, false, false, false] rfl rfl (by kernel_rfl) (fun _ _ _ h => h) (Or.inl ⟨by rfl, ?_⟩) ?_ ?_
              rotate_left
              · intro w'
                go_simp
                first | done | with_reducible rfl
              rotate_left
              · simp only [Act.put, List.setIfInBounds_toArray, List.set_cons_zero, List.set_cons_succ, i64_w, i32_w]
                rfl
              refine pure_ (i := 7) (N := some 50) (v := ?_) (a' := ?_) #[true, true, true, true, true, true, true, true, false, false, false, false, false] rfl rfl (by kernel_rfl) (fun _ _ _ h => h) (Or.inl ⟨by rfl, ?_⟩) ?_ ?_
              rotate_left
              · intro w'
                go_simp
                first | done | with_reducible rfl
              rotate_left
              · simp only [Act.put, List.setIfInBounds_toArray, List.set_cons_zero, List.set_cons_succ, i64_w, i32_w]
                rfl
              refine pure_ (i := 8) (N := some 51) (v := ?_) (a' := ?_) #[true, true, true, true, true, true, true, true, true, false, false, false, false] rfl rfl (by kernel_rfl) (fun _ _ _ h => h) (Or.inl ⟨by rfl, ?_⟩) ?_ ?_
              rotate_left
              · intro w'
                go_simp
                first | done | with_reducible rfl
              rotate_left
              · simp only [Act.put, List.setIfInBounds_toArray, List.set_cons_zero, List.set_cons_succ, i64_w, i32_w]
                rfl
              refine one_ (i := 9) (N := some 52) #[true, true, true, true, true, true, true, true, true, true, false, false, false] rfl rfl (by kernel_rfl) (by decide) (fun K hK => ?_)
              refine value_ (by rfl) rfl (by go_simp; first | rfl | exact ⟨rfl, rfl⟩) ?_
              refine hK.out _ _ (keepA_below hHeld (below_alloc (Below.refl _ _) _)) (fun hHeld1 => ?_)
              clear hK K
              refine norm_ (a' := ?_) ?_ ?_
              rotate_left
              · show Act.put _ (some 52) _ = _
                simp only [Act.put, List.setIfInBounds_toArray, List.set_cons_zero, List.set_cons_succ, i64_w, i32_w]
                rfl
              refine tail_list 10 (t := [10, 11, 12]) (fuel := 0) rfl rfl rfl (by kernel_rfl) (by decide) ?_
              clear hHeld hHeld1 hS hnt
              obtain ⟨A2, hA2⟩ : ∃ A2, A2 = (if c = q + no then A else Option.map (fun x => x.add (q + no)) A) := ⟨_, rfl⟩
              rw [← hA2]
              have hBw : Below w.heap.size w w' := below_then HBW.out HBW.out.size hBK
              obtain ⟨W3, hW3⟩ : ∃ W3, W3 = (w'.alloc (.cells #[.slice A q c, .slice An nn cn, .slice A2 (n - (q + no)) (c - (q + no))] 22)).drew := ⟨_, rfl⟩
              rw [← hW3]
              have hb3 : W3.heap[w'.heap.size]? = some (.cells #[.slice A q c, .slice An nn cn, .slice A2 (n - (q + no)) (c - (q + no))] 22 (0, 0)) := by rw [hW3]; exact heap_alloc_new w' _
              have hB3 : Below w.heap.size w W3 := by rw [hW3]; exact (hBw.alloc hBw.size _).drew
              have hC3 : Kd.C (Kd.slice 9 Kd.string) W3 (some ⟨w'.heap.size, 0, none⟩) 3 [x.take q, new, x.drop (q + no)] := by
                refine three_C hb3 (by rw [List.length_take, HL.out.1]; omega) (by omega) HL.out.2.2 hcn (by rw [List.length_drop, HL.out.1]) (by omega) ?_ (Kd.C_below HN.out hB3) ?_
                · have hA' := Kd.C_below HA.out hB3
                  have h1 := HL.out.1
                  have := Kd.C_take (m := q) (by rw [← h1] at hA'; exact hA') (by omega)
                  rw [List.length_take, Nat.min_eq_left (by omega)] at this
                  exact this
                · have hA' := Kd.C_below HA.out hB3
                  have h1 := HL.out.1
                  have := Kd.C_drop (m := q + no) (c := c) (by rw [← h1] at hA'; exact hA') (by omega) (by omega)
                  rw [List.length_drop, h1, show (q + no) * Kd.string.sz = q + no from Nat.mul_one _, ← hA2] at this
                  exact this
              have HC3 := Lib.hid hC3
              have HB3 := Lib.hid hB3
              generalize hbs : w'.heap.size = bs at *
              clear hW3 hb3 hB3 hC3 hA2 hbs hBw HK
              go_wp2_with fail
              refine (concat_any 3 3 _ _ _ rfl HC3.out ?hlen (by decide)).mono ?_
              case hlen => simp [lens, HL.out.1, HL.out.2.2]; omega
              rintro e w4 ⟨v, rfl, hR, hB⟩
              have hR' : Kd.string.R 9 w4 w.heap.size (fun _ => True) v (x.take q ++ new ++ x.drop (q + no)) := by
                have := Kd.R_lower hR HB3.out.size
                simpa using this
              have HR := Lib.hid hR'
              have HB := Lib.hid (below_then HB3.out HB3.out.size hB)
              clear hR' hR hB
              go_wp2_with fail
              go_ret2
              exact ⟨v, rfl, HR.out, HB.out⟩
        · rw [if_neg heq]
          have HEQ := Lib.hid heq
          clear heq
          go_enter Try.func14, Try.ntmps14
          go_wp2_with fail
          obtain ⟨W0, hW0⟩ : ∃ W0, W0 = w.alloc (.cells #[.int .i64 (q : Int), .slice Ao no co, .slice An nn cn] 24) := ⟨_, rfl⟩
          have hBW : Below w.heap.size w W0 := by rw [hW0]; exact (Below.refl _ _).alloc (Nat.le_refl _) _
          have hblk : W0.heap[w.heap.size]? = some (.cells #[.int .i64 (q : Int), .slice Ao no co, .slice An nn cn] 24 (0, 0)) := by rw [hW0]; exact heap_alloc_new _ _
          rw [← hW0]
          obtain ⟨k0, k1, k2⟩ := head_cells hblk
          have hS : keepA W0 W0 w.heap.size (.int .i64 (q : Int)) (.slice Ao no co) (.slice An nn cn) := ⟨Below.refl _ _, k0, k1, k2⟩
          have HBW := Lib.hid hBW
          clear hW0 hBW hblk k0 k1 k2
          have hq1 : q ≤ n := by omega
          have hq2 : q + no ≤ n := by omega
          have hq3 : (q : Int) ≤ (q : Int) + (no : Int) := by omega
          have hq4 : (q : Int) + (no : Int) ≤ (n : Int) := by omega
          have hq5 : (q : Int) + (no : Int) ≤ (c : Int) := by omega
          refine start_ (S := fun w' => keepA W0 w' w.heap.size (.int .i64 (q : Int)) (.slice Ao no co) (.slice An nn cn)) (ds := [8]) (n := 9) #[false, false, false, false, false, false, false, false, false] rfl rfl rfl ?hS0 (fun hHeld => ?hrun)
          case hS0 => exact keepA_below hS ((Below.refl _ _).drew)
          case hrun =>
            refine pure_ (i := 0) (N := some 34) (v := ?_) (a' := ?_) #[true, false, false, false, false, false, false, false, false] rfl rfl (by kernel_rfl) (fun _ _ _ h => h) (Or.inl ⟨by rfl, ?_⟩) ?_ ?_
            rotate_left
            · intro w'
              go_simp
              first | done | with_reducible rfl
            rotate_left
            · simp only [Act.put, List.setIfInBounds_toArray, List.set_cons_zero, List.set_cons_succ, i64_w, i32_w]
              rfl
            refine pure_ (i := 1) (N := some 35) (v := ?_) (a' := ?_) #[true, true, false, false, false, false, false, false, false] rfl rfl (by kernel_rfl) (fun _ _ _ h => h) (Or.inl ⟨by rfl, ?_⟩) ?_ ?_
            rotate_left
            · intro w'
              go_simp
              first | done | with_reducible rfl
            rotate_left
            · simp only [Act.put, List.setIfInBounds_toArray, List.set_cons_zero, List.set_cons_succ, i64_w, i32_w]
              rfl
            refine take_ (i := 2) (N := some 36) (v := ?_) (a' := ?_) #[true, true, true, false, false, false, false, false, false] rfl rfl (by kernel_rfl) (fun _ _ _ h => h) (Or.inl ⟨by rfl, ?_⟩) hHeld ?_ ?_
            rotate_left
            · rintro w' ⟨hbe, s0, s1, s2⟩
              go_simp
              first | done | with_reducible rfl
            rotate_left
            · simp only [Act.put, List.setIfInBounds_toArray, List.set_cons_zero, List.set_cons_succ, i64_w, i32_w]
              rfl
            refine pure_ (i := 3) (N := some 37) (v := ?_) (a' := ?_) #[true, true, true, true, false, false, false, false, false] rfl rfl (by kernel_rfl) (fun _ _ _ h => h) (Or.inl ⟨by rfl, ?_⟩) ?_ ?_
            rotate_left
            · intro w'
              go_simp
              first | done | with_reducible rfl
            rotate_left
            · simp only [Act.put, List.setIfInBounds_toArray, List.set_cons_zero, List.set_cons_succ, i64_w, i32_w]
              rfl
            refine pure_ (i := 4) (N := some 38) (v := ?_) (a' := ?_) #[true, true, true, true, true, false, false, false, false] rfl rfl (by kernel_rfl) (fun _ _ _ h => h) (Or.inl ⟨by rfl, ?_⟩) ?_ ?_
            rotate_left
            · intro w'
              go_simp
              first | done | with_reducible rfl
            rotate_left
            · simp only [Act.put, List.setIfInBounds_toArray, List.set_cons_zero, List.set_cons_succ, i64_w, i32_w]
              rfl
            refine pure_ (i := 5) (N := some 39) (v := ?_) (a' := ?_) #[true, true, true, true, true, true, false, false, false] rfl rfl (by kernel_rfl) (fun _ _ _ h => h) (Or.inl ⟨by rfl, ?_⟩) ?_ ?_
            rotate_left
            · intro w'
              go_simp
              first | done | with_reducible rfl
            rotate_left
            · simp only [Act.put, List.setIfInBounds_toArray, List.set_cons_zero, List.set_cons_succ, i64_w, i32_w]
              rfl
            refine take_ (i := 6) (N := some 40) (v := ?_) (a' := ?_) #[true, true, true, true, true, true, true, false, false] rfl rfl (by kernel_rfl) (fun _ _ _ h => h) (Or.inl ⟨by rfl, ?_⟩) hHeld ?_ ?_
            rotate_left
            · rintro w' ⟨hbe, s0, s1, s2⟩
              go_simp
              first | done | with_reducible rfl
            rotate_left
            · simp only [Act.put, List.setIfInBounds_toArray, List.set_cons_zero, List.set_cons_succ, i64_w, i32_w]
              rfl
            refine one_ (i := 7) (N := some 41) #[true, true, true, true, true, true, true, true, false] rfl rfl (by kernel_rfl) (by decide) (fun K hK => ?_)
            refine goes_ Try.func25 (by kernel_rfl) rfl #[.slice (if c = q then A else Option.map (fun x => x.add q) A) (((q : Int) + (no : Int)).toNat - q) (c - q), .slice Ao no co] (by rfl) rfl rfl (by (try simp only [List.map_toArray, List.map_cons, List.map_nil]); first | done | rfl) ?_
            refine (equal_x _ _ _ _ ((x.take (q + no)).drop q) old _ _ _ (by rw [List.length_drop, List.length_take, HL.out.1]; omega) HL.out.2.1 (mid_C (Kd.C_below HA.out (below_then HBW.out HBW.out.size (keepA_b hHeld))) HL.out.1 hq2 hc) (by omega) (Kd.C_below HO.out (below_then HBW.out HBW.out.size (keepA_b hHeld))) hco (by omega)).mono ?_
            rintro e w' ⟨rfl, hB⟩
            have HK := Lib.hid (keepA_below hHeld hB)
            refine ⟨_, rfl, ?_⟩
            refine hK.out _ _ (keepA_below hHeld hB) (fun hHeld1 => ?_)
            clear hK K
            refine norm_ (a' := ?_) ?_ ?_
            rotate_left
            · show Act.put _ (some 41) _ = _
              simp only [Act.put, List.setIfInBounds_toArray, List.set_cons_zero, List.set_cons_succ, i64_w, i32_w]
              rfl
            refine tail_list 8 (t := [8]) (fuel := 0) rfl rfl rfl (by kernel_rfl) (by decide) ?_
            clear hHeld hHeld1 hS
            generalize hAQ : (if c = q then A else Option.map (fun x => x.add q) A) = AQ at *
            clear hAQ
            rw [decide_eq_false HEQ.out]
            go_wp2_with fail
            go_ret2
            exact ⟨_, rfl, Kd.R_nil _ _ _ _ _, below_then HBW.out HBW.out.size (keepA_b HK.out)⟩
end Go.Proofs.Ytjclpepdjnffaaa
