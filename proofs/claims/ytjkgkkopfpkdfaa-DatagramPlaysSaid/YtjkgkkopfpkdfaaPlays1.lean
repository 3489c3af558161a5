/- DatagramPlays: the callees that only read: Great, SameList. -/
import Derived.Test.YtjkgkkopfpkdfaaKeeps
import Derived.Test.YtjkgkkopfpkdfaaLaws19
set_option linter.unusedVariables false
set_option linter.unusedSimpArgs false
namespace Go.Proofs.Ytjkgkkopfpkdfaa
open Go.RowKit Go.Conc Go.Proofs.YtjkgkkopfpkdfaaW.PrintWords Go.Proofs.YtjkgkkopfpkdfaaW.PrintLast

structure Op where
  what : Int
  p : Pkt
  at_ : Int
def kOp : Kd Op := Kd.iso (Kd.pair (Kd.int .i64) (Kd.pair kPkt (Kd.int .i64))) (fun x : Op => (x.what, x.p, x.at_))

theorem at_Op {w : World} {A : Option Addr} {n : Nat} {xs : List Op} (h : Kd.C kOp w A n xs) (i : Nat) (p : Op) (hp : xs[i]? = some p) :
    ∃ ad A2 c2, A = some ad ∧ w.cell? (ad.add (i * 5)) = some (.int .i64 p.what) ∧ w.cell? ⟨(ad.add (i * 5)).block, (ad.add (i * 5)).off + 1, none⟩ = some (.int .i64 p.p.f) ∧ w.cell? ⟨(ad.add (i * 5)).block, (ad.add (i * 5)).off + 2, none⟩ = some (.int .i64 p.p.t) ∧
      w.cell? ⟨(ad.add (i * 5)).block, (ad.add (i * 5)).off + 3, none⟩ = some (.slice A2 p.p.d.length c2) ∧ w.cell? ⟨(ad.add (i * 5)).block, (ad.add (i * 5)).off + 4, none⟩ = some (.int .i64 p.at_) ∧ p.p.d.length ≤ c2 ∧ Kd.C (Kd.int .u8) w A2 p.p.d.length p.p.d := by
  have hi := (List.getElem?_eq_some_iff.1 hp).1
  obtain ⟨ad, e, hc⟩ := h.2.2 (by have := h.1; omega)
  obtain ⟨c, _, hK, hcell⟩ := hc i p hp
  obtain ⟨_, _, rfl, rfl, ⟨_, _, rfl, ⟨_, _, rfl, rfl, ⟨_, _, rfl, rfl, ⟨A2, c2, rfl, l2, g2⟩⟩⟩, rfl⟩⟩ := hK
  have hcell' : ∀ j u, [Value.int .i64 p.what, .int .i64 p.p.f, .int .i64 p.p.t, .slice A2 p.p.d.length c2, .int .i64 p.at_][j]? = some u → w.cell? (ad.add (i * 5 + j)) = some u := hcell
  exact ⟨ad, A2, c2, e, by simpa using hcell' 0 _ rfl, by rw [← add_field _ _ 1 (by omega)]; exact hcell' 1 _ rfl, by rw [← add_field _ _ 2 (by omega)]; exact hcell' 2 _ rfl, by rw [← add_field _ _ 3 (by omega)]; exact hcell' 3 _ rfl, by rw [← add_field _ _ 4 (by omega)]; exact hcell' 4 _ rfl, l2, g2⟩

/-- It has come to true, or to false. -/
def AnyBool (e : Ending) : Prop := ∃ b, e = .returned (.bool b)
/-- Two elements that are read so: they stay so, whatever a call does that turns nothing that was there. -/
def w_six (w : World) (p q : Addr) (x0 x1 x2 y0 y1 y2 : Value) : Prop :=
  w.cell? p = some x0 ∧ w.cell? ⟨p.block, p.off + 1, none⟩ = some x1 ∧ w.cell? ⟨p.block, p.off + 2, none⟩ = some x2 ∧ w.cell? q = some y0 ∧ w.cell? ⟨q.block, q.off + 1, none⟩ = some y1 ∧ w.cell? ⟨q.block, q.off + 2, none⟩ = some y2
theorem w_six.below {w w' : World} {p q : Addr} {x0 x1 x2 y0 y1 y2 : Value} (h : w_six w p q x0 x1 x2 y0 y1 y2) (hB : Below w.heap.size w w') : w_six w' p q x0 x1 x2 y0 y1 y2 := by
  obtain ⟨a, b, c, d, e, f⟩ := h
  exact ⟨(hB.cell (cell_lt a)).trans a, (hB.cell (cell_lt b)).trans b, (hB.cell (cell_lt c)).trans c, (hB.cell (cell_lt d)).trans d, (hB.cell (cell_lt e)).trans e, (hB.cell (cell_lt f)).trans f⟩

set_option maxHeartbeats 1000000 in
theorem great_any (A : Option Addr) (cp : Nat) (xs : List Op) (w : World) (h : Kd.C kOp w A xs.length xs) (hl : xs.length ≤ 140737488351232) :
    Calls Try.prog 9 #[.slice A xs.length cp] w fun e w' => AnyBool e ∧ w = w' := by
  have HC := Lib.hid h
  clear h
  go_enter Try.func9, Try.ntmps9
  go_wp2_with fail
  go_loop [3, 4] (fun n i => ∃ k m : Nat, k ≤ xs.length ∧ i = .int .i64 k ∧ n = .int .i64 m ∧ m ≤ xs.length + 40000) (fun _ i => xs.length - (intOf i).toNat)
  case atStart => exact ⟨0, xs.length, by omega, rfl, rfl, by omega⟩
  case round =>
    obtain ⟨k, m, hk, rfl, rfl, hm⟩ := hrel
    by_cases hlt : k < xs.length
    · have d2 : decide ((k : Int) < (xs.length : Int)) = true := decide_eq_true (by omega)
      by_cases hm2 : m < 20000
      · have d3 : decide ((m : Int) < 20000) = true := decide_eq_true (by omega)
        obtain ⟨ad, A2, c2, rfl, x0, x1, x2, x3, x4, hc2, hC2⟩ := at_Op HC.out k xs[k] (List.getElem?_eq_getElem hlt)
        have HC2 := Lib.hid hC2
        clear hC2
        obtain ⟨q, hq, hq1⟩ : ∃ q : Nat, min (xs[k].p.d.length : Int) 20000 = q ∧ q ≤ 20000 := ⟨min xs[k].p.d.length 20000, by omega, by omega⟩
        go_wp2_with fail
        refine ⟨⟨k + 1, m + min xs[k].p.d.length 20000, by omega, by go_num, ?_, by omega⟩, by simp [intOf]; omega⟩
        have e : (if (20000 : Int) < (xs[k].p.d.length : Int) then (20000 : Int) else (xs[k].p.d.length : Int)) = ((min xs[k].p.d.length 20000 : Nat) : Int) := by split <;> omega
        rw [e]
        go_num
      · have d3 : decide ((m : Int) < 20000) = false := decide_eq_false (by omega)
        have d4 : decide (20000 ≤ (m : Int)) = true := decide_eq_true (by omega)
        go_wp2_with fail
        go_ret
        exact ⟨⟨_, rfl⟩, rfl⟩
    · have d2 : decide ((k : Int) < (xs.length : Int)) = false := decide_eq_false (by omega)
      by_cases hm2 : m < 20000
      · have d3 : decide (20000 ≤ (m : Int)) = false := decide_eq_false (by omega)
        go_wp2_with fail
        go_ret
        exact ⟨⟨_, rfl⟩, rfl⟩
      · have d4 : decide (20000 ≤ (m : Int)) = true := decide_eq_true (by omega)
        go_wp2_with fail
        go_ret
        exact ⟨⟨_, rfl⟩, rfl⟩

set_option maxHeartbeats 1000000 in
theorem sameList_true (A A' : Option Addr) (cp cp' : Nat) (xs : List Pkt) (w : World) (h : Kd.C kPkt w A xs.length xs) (h' : Kd.C kPkt w A' xs.length xs) :
    Calls Try.prog 18 #[.slice A xs.length cp, .slice A' xs.length cp'] w fun e w' => e = .returned (.bool true) ∧ Below w.heap.size w w' := by
  have hmx : xs.length ≤ 9223372036854775807 := h.2.1
  have HC := Lib.hid h
  have HC' := Lib.hid h'
  clear h h'
  go_enter Try.func18, Try.ntmps18
  go_wp2_with fail
  go_loopw [5] (fun i wr => ∃ k : Nat, k ≤ xs.length ∧ i = .int .i64 k ∧ Below w.heap.size w wr) (fun i _ => xs.length - (intOf i).toNat)
  case atStart => exact ⟨0, by omega, rfl, Below.refl _ _⟩
  case round =>
    obtain ⟨k, hk, rfl, hB⟩ := hrel
    have HB := Lib.hid hB
    clear hB
    by_cases hlt : k < xs.length
    · have d2 : decide ((k : Int) < (xs.length : Int)) = true := decide_eq_true (by omega)
      have hxk : xs[k]? = some xs[k] := List.getElem?_eq_getElem hlt
      have hd : (k : Int).toNat < xs.length := by omega
      obtain ⟨ad, A2, c2, rfl, x0, x1, x2, hc2, hC2⟩ := at_Pkt (Kd.C_below HC.out HB.out) k xs[k] hxk
      obtain ⟨ad', A2', c2', rfl, y0, y1, y2, hc2', hC2'⟩ := at_Pkt (Kd.C_below HC'.out HB.out) k xs[k] hxk
      have HC2 := Lib.hid hC2
      have HC2' := Lib.hid hC2'
      have HS := Lib.hid (show w_six wr (ad.add (k * 3)) (ad'.add (k * 3)) _ _ _ _ _ _ from ⟨x0, x1, x2, y0, y1, y2⟩)
      clear hC2 hC2' x0 x1 x2 y0 y1 y2
      go_upto_region 6 with (fail)
      refine start_ (S := fun w' => w_six w' (ad.add (k * 3)) (ad'.add (k * 3)) (.int .i64 xs[k].f) (.int .i64 xs[k].t) (.slice A2 xs[k].d.length c2) (.int .i64 xs[k].f) (.int .i64 xs[k].t) (.slice A2' xs[k].d.length c2')) (ds := [9]) (n := 10) #[false, false, false, false, false, false, false, false, false, false] rfl rfl rfl ?hS0 (fun hHeld => ?hrun)
      case hS0 => exact HS.out
      case hrun =>
        refine pure_ (i := 0) (N := some 17) (v := ?_) (a' := ?_) #[true, false, false, false, false, false, false, false, false, false] rfl rfl (by kernel_rfl) (fun _ _ _ h => h) (Or.inl ⟨by rfl, ?_⟩) ?_ ?_
        rotate_left
        · intro w'
          go_simp
          with_reducible rfl
        rotate_left
        · simp only [Act.put, List.setIfInBounds_toArray, List.set_cons_zero, List.set_cons_succ, i64_w, i32_w]
          rfl
        refine pure_ (i := 1) (N := some 18) (v := ?_) (a' := ?_) #[true, true, false, false, false, false, false, false, false, false] rfl rfl (by kernel_rfl) (fun _ _ _ h => h) (Or.inl ⟨by rfl, ?_⟩) ?_ ?_
        rotate_left
        · intro w'
          go_simp
          with_reducible rfl
        rotate_left
        · simp only [Act.put, List.setIfInBounds_toArray, List.set_cons_zero, List.set_cons_succ, i64_w, i32_w]
          rfl
        refine pure_ (i := 2) (N := some 19) (v := ?_) (a' := ?_) #[true, true, true, false, false, false, false, false, false, false] rfl rfl (by kernel_rfl) (fun _ _ _ h => h) (Or.inl ⟨by rfl, ?_⟩) ?_ ?_
        rotate_left
        · intro w'
          go_simp
          with_reducible rfl
        rotate_left
        · simp only [Act.put, List.setIfInBounds_toArray, List.set_cons_zero, List.set_cons_succ, i64_w, i32_w]
          rfl
        refine take_ (i := 3) (N := some 20) (v := ?_) (a' := ?_) #[true, true, true, true, false, false, false, false, false, false] rfl rfl (by kernel_rfl) (fun _ _ _ h => h) (Or.inl ⟨by rfl, ?_⟩) hHeld ?_ ?_
        rotate_left
        · rintro w' ⟨s0, s1, s2, s3, s4, s5⟩
          go_simp
          with_reducible rfl
        rotate_left
        · simp only [Act.put, List.setIfInBounds_toArray, List.set_cons_zero, List.set_cons_succ, i64_w, i32_w]
          rfl
        refine pure_ (i := 4) (N := some 21) (v := ?_) (a' := ?_) #[true, true, true, true, true, false, false, false, false, false] rfl rfl (by kernel_rfl) (fun _ _ _ h => h) (Or.inl ⟨by rfl, ?_⟩) ?_ ?_
        rotate_left
        · intro w'
          go_simp
          with_reducible rfl
        rotate_left
        · simp only [Act.put, List.setIfInBounds_toArray, List.set_cons_zero, List.set_cons_succ, i64_w, i32_w]
          rfl
        refine pure_ (i := 5) (N := some 22) (v := ?_) (a' := ?_) #[true, true, true, true, true, true, false, false, false, false] rfl rfl (by kernel_rfl) (fun _ _ _ h => h) (Or.inl ⟨by rfl, ?_⟩) ?_ ?_
        rotate_left
        · intro w'
          go_simp
          with_reducible rfl
        rotate_left
        · simp only [Act.put, List.setIfInBounds_toArray, List.set_cons_zero, List.set_cons_succ, i64_w, i32_w]
          rfl
        refine pure_ (i := 6) (N := some 23) (v := ?_) (a' := ?_) #[true, true, true, true, true, true, true, false, false, false] rfl rfl (by kernel_rfl) (fun _ _ _ h => h) (Or.inl ⟨by rfl, ?_⟩) ?_ ?_
        rotate_left
        · intro w'
          go_simp
          with_reducible rfl
        rotate_left
        · simp only [Act.put, List.setIfInBounds_toArray, List.set_cons_zero, List.set_cons_succ, i64_w, i32_w]
          rfl
        refine take_ (i := 7) (N := some 24) (v := ?_) (a' := ?_) #[true, true, true, true, true, true, true, true, false, false] rfl rfl (by kernel_rfl) (fun _ _ _ h => h) (Or.inl ⟨by rfl, ?_⟩) hHeld ?_ ?_
        rotate_left
        · rintro w' ⟨s0, s1, s2, s3, s4, s5⟩
          go_simp
          with_reducible rfl
        rotate_left
        · simp only [Act.put, List.setIfInBounds_toArray, List.set_cons_zero, List.set_cons_succ, i64_w, i32_w]
          rfl
        refine one_ (i := 8) (N := some 25) #[true, true, true, true, true, true, true, true, true, false] rfl rfl (by kernel_rfl) (by decide) (fun K hK => ?_)
        refine goes_ Try.func12 (by kernel_rfl) rfl #[.agg #[.int .i64 xs[k].f, .int .i64 xs[k].t, .slice A2 xs[k].d.length c2], .agg #[.int .i64 xs[k].f, .int .i64 xs[k].t, .slice A2' xs[k].d.length c2']] (by rfl) rfl rfl (by (try simp only [List.map_toArray, List.map_cons, List.map_nil]); first | done | rfl) ?_
        refine (same_true xs[k] A2 A2' c2 c2' _ (Kd.C_below HC2.out (Below.refl _ _).drew) (Kd.C_below HC2'.out (Below.refl _ _).drew)).mono ?_
        rintro e w7 ⟨rfl, hB7⟩
        have HB7 := Lib.hid (below_then (Below.refl wr.heap.size wr).drew (by simp) hB7)
        clear hB7
        refine ⟨_, rfl, ?_⟩
        refine hK.out _ _ (HS.out.below HB7.out) (fun hHeld1 => ?_)
        clear hK K
        refine norm_ (a' := ?_) ?_ ?_
        rotate_left
        · show Act.put _ (some 25) _ = _
          simp only [Act.put, List.setIfInBounds_toArray, List.set_cons_zero, List.set_cons_succ, i64_w, i32_w]
          rfl
        refine tail_list 9 (t := [9]) (fuel := 0) rfl rfl rfl (by kernel_rfl) (by decide) ?_
        have HB8 := Lib.hid (below_then HB.out HB.out.size HB7.out)
        clear HB HB7 HC2 HC2' HS
        go_wp2_with fail
        go_roundw
        case rel => exact ⟨k + 1, by omega, by go_num, HB8.out⟩
        case measure => simp [intOf]; omega
    · have d2 : decide ((k : Int) < (xs.length : Int)) = false := decide_eq_false (by omega)
      go_wp2_with fail
      go_ret
      exact ⟨rfl, HB.out⟩
end Go.Proofs.Ytjkgkkopfpkdfaa
