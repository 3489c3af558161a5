/- A frame's bytes: fields. -/
import Derived.Test.YthfgkkpibkkiaaaDoorSessE
import Derived.Test.YthfgkkpibkkiaaaDoorShelf
import Derived.WalkKit
import Derived.Lib.ItoaLen
set_option linter.unusedVariables false
set_option linter.unusedSimpArgs false
namespace Go.Proofs.YthfgkkpibkkiaaaDoor
open Go.RowKit Go.Proofs.YthfgkkpibkkiaaaDoorW.PrintWords Go.Proofs.YthfgkkpibkkiaaaDoorW.PrintLast Go.Proofs.YthfgkkpibkkiaaaDoor.PSessionPlays

/-- What a row's first world gives of the library's own variables. -/
structure Ground (w : World) : Prop where
  cut : ∃ m, w.cell? ⟨0, 0, none⟩ = some (.int .i64 m)
  syn : ∃ ev, w.cell? ⟨1, 0, none⟩ = some ev ∧ (ev = .nilIface ∨ ∃ te pe, ev = .iface te pe)
  rng : ∃ ev, w.cell? ⟨2, 0, none⟩ = some ev ∧ (ev = .nilIface ∨ ∃ te pe, ev = .iface te pe)
  tab : Lib.TabIs Tryd.prog w "internal/strconv.uint64pow10" .u64 Lib.pow10Tab
theorem cell_lt {w : World} {k : Nat} {v : Value} (h : w.cell? ⟨k, 0, none⟩ = some v) : k < w.heap.size := by
  rcases Nat.lt_or_ge k w.heap.size with h0 | h0
  · exact h0
  · have : w.heap[k]? = none := Array.getElem?_eq_none h0
    simp [World.cell?, this] at h
theorem Ground.below {w w' : World} (h : Ground w) (hB : Below w.heap.size w w') : Ground w' := by
  obtain ⟨⟨m, h0⟩, ⟨s, h1, h1'⟩, ⟨r, h2, h2'⟩, h3⟩ := h
  exact ⟨⟨m, (hB.cell (p := ⟨0, 0, none⟩) (cell_lt h0)).trans h0⟩, ⟨s, (hB.cell (p := ⟨1, 0, none⟩) (cell_lt h1)).trans h1, h1'⟩, ⟨r, (hB.cell (p := ⟨2, 0, none⟩) (cell_lt h2)).trans h2, h2'⟩, Lib.tabBelow_of_tabIs h3 w' hB⟩
/-- Numbers' digits, each with a blank behind. -/
def fieldsB (l : List Int) : List UInt8 := (l.map fun n => Lib.itoa n ++ [32]).flatten
def i64ok (n : Int) : Prop := -9223372036854775808 ≤ n ∧ n ≤ 9223372036854775807
theorem fields_next (l : List Int) (i : Nat) (h : i < l.length) : Lib.byteCells (fieldsB (l.take (i + 1))) = Lib.byteCells (fieldsB (l.take i)) ++ Lib.byteCells (Lib.itoa (l[i]'h)) ++ [.int .u8 32] := by
  have e : fieldsB (l.take (i + 1)) = fieldsB (l.take i) ++ Lib.itoa (l[i]'h) ++ [32] := by
    unfold fieldsB
    rw [← List.take_append_getElem h, List.map_append, List.flatten_append, List.append_assoc]
    simp only [List.map_cons, List.map_nil, List.flatten_cons, List.flatten_nil, List.append_nil]
  rw [e, Lib.byteCells_append, Lib.byteCells_append]
  rfl
theorem at_i64 {w : World} {A : Option Addr} {n : Nat} {xs : List Int} (h : Kd.C (Kd.int .i64) w A n xs) (i : Nat) (h1 : i < n) (h2 : i < xs.length) : ∃ ad, A = some ad ∧ w.cell? (ad.add i) = some (.int .i64 (xs[i]'h2)) := by
  obtain ⟨ad, e, hc⟩ := ReadsOf.at_ (Kd.reads_of_C (enc := Value.int .i64) (d := (0 : Int)) (h1 := fun _ => rfl) h) (i : Int) (by omega) (by omega)
  rw [Int.toNat_natCast] at hc
  refine ⟨ad, e, ?_⟩
  rw [hc]
  unfold rdOf
  rw [Int.toNat_natCast, List.getD_eq_getElem?_getD, List.getElem?_eq_getElem h2]
  rfl
set_option maxRecDepth 100000 in
set_option maxHeartbeats 4000000 in
theorem fields_any (A : Option Addr) (n c : Nat) (l : List Int) (hl : l.length = n) (w : World) (hC : Kd.C (Kd.int .i64) w A n l) (hn : n ≤ 1000) (hi64 : ∀ x ∈ l, i64ok x) (hG : Lib.TabBelow Tryd.prog w.heap.size w "internal/strconv.uint64pow10" .u64 Lib.pow10Tab) :
    Calls Tryd.prog 35 #[.slice A n c] w fun r w' => ∃ v m, r = .returned v ∧ w'.ownsRow w.heap.size 5 1 v m (Lib.byteCells (fieldsB l)) ∧ Below w.heap.size w w' := by
  have HC := Lib.hid hC
  have HL := Lib.hid hl
  have HI := Lib.hid hi64
  have HG := Lib.hid hG
  clear hC hl hi64 hG
  obtain ⟨i0, hi, hz0, hz1, hz2⟩ := info_parts infoU8
  go_enter Tryd.func35, Tryd.ntmps35
  go_wp2_with fail
  go_loopw [3, 8] (fun vb vi wr => ∃ (i m : Nat), i ≤ n ∧ vi = .int .i64 (i : Int) ∧ m ≤ i * 22 ∧ wr.ownsRow w.heap.size 5 1 vb m (Lib.byteCells (fieldsB (l.take i))) ∧ Below w.heap.size w wr) (fun _ vi _ => n - (intOf vi).toNat)
  case atStart => exact ⟨0, 0, Nat.zero_le _, rfl, Nat.le_refl _, World.ownsRow_nil _ _ _ _, Below.refl _ _⟩
  case round =>
    obtain ⟨i, m, hin0, rfl, hm, hO, hB⟩ := hrel
    have HO := Lib.hid (And.intro hO hB)
    clear hO hB
    by_cases hin : i < n
    · have hin1 : (i : Int) < (n : Int) := by omega
      have hi0 : (0 : Int) ≤ (i : Int) := by omega
      have hli : i < l.length := by rw [HL.out]; exact hin
      obtain ⟨ad, rfl, hc⟩ := at_i64 (Kd.C_below HC.out HO.out.2) i hin hli
      have hok := HI.out _ (List.getElem_mem hli)
      have hnx := fields_next l i hli
      obtain ⟨x, hx⟩ : ∃ x, x = l[i]'hli := ⟨_, rfl⟩
      rw [← hx] at hc hok hnx
      have HNX := Lib.hid hnx
      have HOK := Lib.hid (And.intro hok.1 hok.2)
      have HLEN := Lib.hid (Lib.itoa_length_le x hok.1 hok.2)
      clear hnx hok hx
      go_wp2_with fail
      refine (Tryd.strconv_AppendInt_10 w.heap.size m x HOK.out.1 HOK.out.2 u3 _ wr HO.out.1 HO.out.2.size (by omega) (HG.out.on HO.out.2)).mono ?_
      rintro r w1 ⟨v1, rfl, hO1, hB1, _⟩
      have hz1' := hB1.size
      have hzz := HO.out.2.size
      go_wp2_with (at_builtin; refine wpList_append_own _ rfl _ _ 22 rfl w.heap.size 5 i0 (.int .u8 0) 1 1 (by rfl) hi hz0 hz1 hz2 rfl (by decide) _ _ _ rfl (hO1.alloc _) ⟨w1.heap.size, 0, none⟩ 1 1 [.int .u8 32] rfl rfl ?c1 ?c2 ?c3 ?c4 ?c5 ?_)
      case c1 =>
        intro j u hj
        match j, hj with
        | 0, hj => simp at hj; subst hj; simp [Addr.add]
      case c2 => intro u hu; simp at hu; subst hu; rfl
      case c3 => have := HLEN.out; unfold maxLen; omega
      case c4 => have := HLEN.out; omega
      case c5 => simp; omega
      intro v2 w2 hO2 hG2 _
      have hB2 : Below w.heap.size wr w2 := (hB1.alloc (by omega) _).grown hG2 (by simp; omega) (fun k hk => own_base hO1 k hk)
      have HO2 := Lib.hid (And.intro hO2 (HO.out.2.trans hB2))
      clear hO1 hB1 hO2 hG2 hB2
      go_wp2_with fail
      refine ⟨⟨i + 1, m + (Lib.itoa x).length + 1, by omega, by go_num, by have := HLEN.out; omega, ?_, HO2.out.2⟩, by first | (simp [intOf]; done) | (simp [intOf]; omega)⟩
      rw [HNX.out, List.append_assoc]
      exact HO2.out.1
    · obtain rfl : i = n := by omega
      have hin1 : ¬ (i : Int) < (i : Int) := by omega
      go_wp2_with fail
      go_ret
      have h := HO.out.1
      rw [List.take_of_length_le (by rw [HL.out]; exact Nat.le_refl _)] at h
      exact ⟨_, rfl, ⟨_, h⟩, HO.out.2⟩
def nmI (l : List UInt8) : List Int := l.map fun b => (b.toNat : Int)
theorem nmI_append (a b : List UInt8) : nmI (a ++ b) = nmI a ++ nmI b := by simp [nmI]
theorem encs_nmI (l : List UInt8) : encs (Value.int .u8) (nmI l) = Lib.byteCells l := by simp [encs, nmI, Lib.byteCells]
theorem R_of_bytes {w : World} {base m : Nat} {v : Value} {l : List UInt8} (h : w.ownsRow base 5 1 v m (Lib.byteCells l)) : Kd.R (Kd.int .u8) 5 w base (fun _ => True) v (nmI l) := by
  refine Kd.R_of_own (enc := Value.int .u8) ?_ (fun _ _ => trivial)
  have hm : m = (nmI l).length := by
    have := h.1
    rw [Lib.byteCells_length] at this
    simp [nmI]
    omega
  rw [encs_nmI, ← hm]
  exact h
/-- A frame's bytes. -/
def putB (x : S24) : List Int := nmI (fieldsB [x.f0, x.f1, x.f3, if x.f2 then 1 else 0]) ++ x.f4
theorem okF_nums {x : S24} (h : okF x = true) : i64ok x.f0 ∧ i64ok x.f1 ∧ i64ok x.f3 ∧ x.f4.length ≤ 32768 := by
  unfold okF okEp okN at h
  simp at h
  unfold i64ok
  omega
theorem four_C (w : World) (a b c d : Int) (t : TypeId) : Kd.C (Kd.int .i64) (w.alloc (.cells #[.int .i64 a, .int .i64 b, .int .i64 c, .int .i64 d] t)) (some ⟨w.heap.size, 0, none⟩) 4 [a, b, c, d] := by
  have hb := heap_alloc_new w (.cells #[.int .i64 a, .int .i64 b, .int .i64 c, .int .i64 d] t)
  refine Kd.C_of_reads (d := (0 : Int)) ⟨rfl, by omega, fun _ => ⟨_, rfl, fun j hj => ?_⟩⟩
  have h : (w.alloc (.cells #[.int .i64 a, .int .i64 b, .int .i64 c, .int .i64 d] t)).cell? ⟨w.heap.size, j, none⟩ = #[Value.int .i64 a, .int .i64 b, .int .i64 c, .int .i64 d][j]? := blk_cell hb j
  match j, hj with
  | 0, _ => exact h
  | 1, _ => exact h
  | 2, _ => exact h
  | 3, _ => exact h
theorem putS {w w1 w2 : World} {x0 x1 x3 : Int} {bb : Bool} {v4 : Value}
    (h : Below w.heap.size w w1 ∧ w1.heap[w.heap.size]? = some (.cells #[.int .i64 x0, .int .i64 x1, .bool bb, .int .i64 x3, v4] 24 (0, 0)) ∧ w1.cell? ⟨w.heap.size, 0, none⟩ = some (.int .i64 x0) ∧ w1.cell? ⟨w.heap.size, 1, none⟩ = some (.int .i64 x1) ∧ w1.cell? ⟨w.heap.size, 3, none⟩ = some (.int .i64 x3) ∧ w1.cell? ⟨w.heap.size, 4, none⟩ = some v4) (hB : Below w1.heap.size w1 w2) :
    Below w.heap.size w w2 ∧ w2.heap[w.heap.size]? = some (.cells #[.int .i64 x0, .int .i64 x1, .bool bb, .int .i64 x3, v4] 24 (0, 0)) ∧ w2.cell? ⟨w.heap.size, 0, none⟩ = some (.int .i64 x0) ∧ w2.cell? ⟨w.heap.size, 1, none⟩ = some (.int .i64 x1) ∧ w2.cell? ⟨w.heap.size, 3, none⟩ = some (.int .i64 x3) ∧ w2.cell? ⟨w.heap.size, 4, none⟩ = some v4 := by
  have h2 := blk_below h.2.1 hB
  obtain ⟨a0, a1, _, a3, a4⟩ := cells5 h2
  exact ⟨h.1.trans (hB.mono h.1.size), h2, a0, a1, a3, a4⟩
theorem fields_small (l : List Int) (h : ∀ x ∈ l, i64ok x) : (fieldsB l).length ≤ l.length * 22 := by
  induction l with
  | nil => simp [fieldsB]
  | cons x l ih =>
    have h1 := Lib.itoa_length_le x (h x (by simp)).1 (h x (by simp)).2
    have h2 := ih (fun y hy => h y (List.mem_cons_of_mem _ hy))
    have e : fieldsB (x :: l) = Lib.itoa x ++ [32] ++ fieldsB l := by simp [fieldsB]
    rw [e]
    simp only [List.length_append, List.length_cons, List.length_nil]
    omega
set_option maxRecDepth 100000 in
set_option maxHeartbeats 8000000 in
theorem put_any (x : S24) (A : Option Addr) (n c : Nat) (hl : x.f4.length = n) (w : World) (hC : Kd.C (Kd.int .u8) w A n x.f4) (hc : n ≤ c) (hG : Ground w) :
    Calls Tryd.prog 14 #[.agg #[.int .i64 x.f0, .int .i64 x.f1, .bool x.f2, .int .i64 x.f3, .slice A n c]] w fun r w' =>
      ∃ v, r = .returned (.tuple #[v, .int .i64 (if okF x then 0 else 1)]) ∧ Kd.R (Kd.int .u8) 5 w' w.heap.size (fun _ => True) v (if okF x then putB x else []) ∧ Below w.heap.size w w' := by
  obtain ⟨q, hq⟩ : ∃ q, q = okF x := ⟨_, rfl⟩
  have HR := Lib.hid (fun w' h' => fright_any x A n c w' hl h' hc)
  rw [← hq] at HR ⊢
  have HQ := Lib.hid hq
  have HC := Lib.hid hC
  have HL := Lib.hid hl
  have HG := Lib.hid hG
  obtain ⟨w1, hw1⟩ : ∃ w1, w1 = w.alloc (.cells #[.int .i64 x.f0, .int .i64 x.f1, .bool x.f2, .int .i64 x.f3, .slice A n c] 24) := ⟨_, rfl⟩
  have hB1 : Below w.heap.size w w1 := by rw [hw1]; exact (Below.refl _ _).alloc (Nat.le_refl _) _
  have hbx : w1.heap[w.heap.size]? = some (.cells #[.int .i64 x.f0, .int .i64 x.f1, .bool x.f2, .int .i64 x.f3, .slice A n c] 24 (0, 0)) := by rw [hw1]; exact heap_alloc_new w _
  obtain ⟨b0, b1, b2, b3, b4⟩ := cells5 hbx
  have HW1 := Lib.hid hw1
  have HB1 := Lib.hid hB1
  have HF1 := Lib.hid hbx
  clear hq hC hl hG hw1 hB1 hbx
  go_enter Tryd.func14, Tryd.ntmps14
  go_upto_region 1 with (fail)
  rw [← HW1.out]
  go_wp2_with fail
  refine (HR.out w1 (Kd.C_below HC.out HB1.out)).mono ?_
  rintro r w2 ⟨rfl, hB⟩
  have HB2 := Lib.hid (HB1.out.trans (hB.mono HB1.out.size))
  have hf2 := blk_below HF1.out hB
  have HF2 := Lib.hid hf2
  obtain ⟨a0, a1, a2, a3, a4⟩ := cells5 hf2
  clear hB hf2 b0 b1 b2 b3 b4
  cases q with
  | false =>
    go_wp2_with fail
    go_ret2
    exact ⟨_, rfl, Kd.R_nil _ _ _ _ _, HB2.out⟩
  | true =>
    have hnum := okF_nums HQ.out.symm
    have HNUM := Lib.hid hnum
    clear hnum
    cases hh : x.f2 with
    | true =>
      rw [hh] at a2 HF2
      have hput : putB x = nmI (fieldsB [x.f0, x.f1, x.f3, 1]) ++ x.f4 := by unfold putB; rw [hh]; rfl
      have HPUT := Lib.hid hput
      clear hput hh
      go_upto_region 6 with (fail)
      refine start_ (S := fun w' => Below w.heap.size w w' ∧ w'.heap[w.heap.size]? = some (.cells #[.int .i64 x.f0, .int .i64 x.f1, .bool true, .int .i64 x.f3, .slice A n c] 24 (0, 0)) ∧ w'.cell? ⟨w.heap.size, 0, none⟩ = some (.int .i64 x.f0) ∧ w'.cell? ⟨w.heap.size, 1, none⟩ = some (.int .i64 x.f1) ∧ w'.cell? ⟨w.heap.size, 3, none⟩ = some (.int .i64 x.f3) ∧ w'.cell? ⟨w.heap.size, 4, none⟩ = some (.slice A n c)) (ds := [11, 12, 13]) (n := 14) #[false, false, false, false, false, false, false, false, false, false, false, false, false, false] rfl rfl rfl ?hS0 (fun hHeld => ?hrun)
      case hS0 => exact ⟨HB2.out.drew, HF2.out, a0, a1, a3, a4⟩
      case hrun =>
        refine pure_ (i := 0) (N := some 10) (v := ?_) (a' := ?_) #[true, false, false, false, false, false, false, false, false, false, false, false, false, false] rfl rfl (by kernel_rfl) (fun _ _ _ h => h) (Or.inl ⟨by rfl, ?_⟩) ?_ ?_
        rotate_left
        · intro w'
          go_simp
          first | done | with_reducible rfl
        rotate_left
        · simp only [Act.put, List.setIfInBounds_toArray, List.set_cons_zero, List.set_cons_succ, i64_w, i32_w]
          rfl
        refine take_ (i := 1) (N := some 11) (v := ?_) (a' := ?_) #[true, true, false, false, false, false, false, false, false, false, false, false, false, false] rfl rfl (by kernel_rfl) (fun _ _ _ h => h) (Or.inl ⟨by rfl, ?_⟩) hHeld ?_ ?_
        rotate_left
        · rintro w' ⟨_, _, s0, s1, s3, s4⟩
          go_simp
          first | done | with_reducible rfl
        rotate_left
        · simp only [Act.put, List.setIfInBounds_toArray, List.set_cons_zero, List.set_cons_succ, i64_w, i32_w]
          rfl
        refine pure_ (i := 2) (N := some 12) (v := ?_) (a' := ?_) #[true, true, true, false, false, false, false, false, false, false, false, false, false, false] rfl rfl (by kernel_rfl) (fun _ _ _ h => h) (Or.inl ⟨by rfl, ?_⟩) ?_ ?_
        rotate_left
        · intro w'
          go_simp
          first | done | with_reducible rfl
        rotate_left
        · simp only [Act.put, List.setIfInBounds_toArray, List.set_cons_zero, List.set_cons_succ, i64_w, i32_w]
          rfl
        refine take_ (i := 3) (N := some 13) (v := ?_) (a' := ?_) #[true, true, true, true, false, false, false, false, false, false, false, false, false, false] rfl rfl (by kernel_rfl) (fun _ _ _ h => h) (Or.inl ⟨by rfl, ?_⟩) hHeld ?_ ?_
        rotate_left
        · rintro w' ⟨_, _, s0, s1, s3, s4⟩
          go_simp
          first | done | with_reducible rfl
        rotate_left
        · simp only [Act.put, List.setIfInBounds_toArray, List.set_cons_zero, List.set_cons_succ, i64_w, i32_w]
          rfl
        refine pure_ (i := 4) (N := some 14) (v := ?_) (a' := ?_) #[true, true, true, true, true, false, false, false, false, false, false, false, false, false] rfl rfl (by kernel_rfl) (fun _ _ _ h => h) (Or.inl ⟨by rfl, ?_⟩) ?_ ?_
        rotate_left
        · intro w'
          go_simp
          first | done | with_reducible rfl
        rotate_left
        · simp only [Act.put, List.setIfInBounds_toArray, List.set_cons_zero, List.set_cons_succ, i64_w, i32_w]
          rfl
        refine take_ (i := 5) (N := some 15) (v := ?_) (a' := ?_) #[true, true, true, true, true, true, false, false, false, false, false, false, false, false] rfl rfl (by kernel_rfl) (fun _ _ _ h => h) (Or.inl ⟨by rfl, ?_⟩) hHeld ?_ ?_
        rotate_left
        · rintro w' ⟨_, _, s0, s1, s3, s4⟩
          go_simp
          first | done | with_reducible rfl
        rotate_left
        · simp only [Act.put, List.setIfInBounds_toArray, List.set_cons_zero, List.set_cons_succ, i64_w, i32_w]
          rfl
        refine pure_ (i := 6) (N := some 16) (v := ?_) (a' := ?_) #[true, true, true, true, true, true, true, false, false, false, false, false, false, false] rfl rfl (by kernel_rfl) (fun _ _ _ h => h) (Or.inl ⟨by rfl, ?_⟩) ?_ ?_
        rotate_left
        · intro w'
          go_simp
          first | done | with_reducible rfl
        rotate_left
        · simp only [Act.put, List.setIfInBounds_toArray, List.set_cons_zero, List.set_cons_succ, i64_w, i32_w]
          rfl
        refine pure_ (i := 9) (N := some 19) (v := ?_) (a' := ?_) #[true, true, true, true, true, true, true, false, false, true, false, false, false, false] rfl rfl (by kernel_rfl) (fun _ _ _ h => h) (Or.inl ⟨by rfl, ?_⟩) ?_ ?_
        rotate_left
        · intro w'
          go_simp
          first | done | with_reducible rfl
        rotate_left
        · simp only [Act.put, List.setIfInBounds_toArray, List.set_cons_zero, List.set_cons_succ, i64_w, i32_w]
          rfl
        refine take_ (i := 10) (N := some 20) (v := ?_) (a' := ?_) #[true, true, true, true, true, true, true, false, false, true, true, false, false, false] rfl rfl (by kernel_rfl) (fun _ _ _ h => h) (Or.inl ⟨by rfl, ?_⟩) hHeld ?_ ?_
        rotate_left
        · rintro w' ⟨_, _, s0, s1, s3, s4⟩
          go_simp
          first | done | with_reducible rfl
        rotate_left
        · simp only [Act.put, List.setIfInBounds_toArray, List.set_cons_zero, List.set_cons_succ, i64_w, i32_w]
          rfl
        refine one_ (i := 7) (N := some 17) #[true, true, true, true, true, true, true, true, false, true, true, false, false, false] rfl rfl (by kernel_rfl) (by decide) (fun K hK => ?_)
        refine value_ (by rfl) rfl (by go_simp; first | rfl | exact ⟨rfl, rfl⟩) ?_
        refine hK.out _ _ (putS hHeld ((Below.refl w2.heap.size w2.drew).alloc (Nat.le_refl _) _)) (fun hHeld1 => ?_)
        clear hK K
        refine norm_ (a' := ?_) ?_ ?_
        rotate_left
        · show Act.put _ (some 17) _ = _
          simp only [Act.put, List.setIfInBounds_toArray, List.set_cons_zero, List.set_cons_succ, i64_w, i32_w]
          rfl
        refine one_ (i := 8) (N := some 18) #[true, true, true, true, true, true, true, true, true, true, true, false, false, false] rfl rfl (by kernel_rfl) (by decide) (fun K hK => ?_)
        refine goes_ Tryd.func35 (by kernel_rfl) rfl #[.slice (some ⟨w2.heap.size, 0, none⟩) 4 4] (by rfl) rfl rfl (by (try simp only [List.map_toArray, List.map_cons, List.map_nil]); first | done | rfl) ?_
        obtain ⟨w3, hw3⟩ : ∃ w3, w3 = (w2.alloc (.cells #[.int .i64 x.f0, .int .i64 x.f1, .int .i64 x.f3, .int .i64 1] 2)).drew := ⟨_, rfl⟩
        have hC3 : Kd.C (Kd.int .i64) w3 (some ⟨w2.heap.size, 0, none⟩) 4 [x.f0, x.f1, x.f3, 1] := by rw [hw3]; exact Kd.C_drew (four_C w2 _ _ _ _ _)
        have hG3 : Ground w3 := HG.out.below (by have := hHeld1.1; rw [← hw3] at this; exact this)
        have hz3 : w.heap.size ≤ w3.heap.size := by rw [hw3]; have := HB2.out.size; simp; omega
        rw [← hw3] at hHeld1 ⊢
        have HZ3 := Lib.hid hz3
        refine (fields_any (some ⟨w2.heap.size, 0, none⟩) 4 4 [x.f0, x.f1, x.f3, 1] rfl w3 hC3 (by decide) (by
          intro y hy
          have h1 := HNUM.out.1
          have h2 := HNUM.out.2.1
          have h3 := HNUM.out.2.2.1
          simp at hy
          rcases hy with rfl | rfl | rfl | rfl
          · exact h1
          · exact h2
          · exact h3
          · unfold i64ok; omega) (Lib.tabBelow_of_tabIs hG3.tab)).mono ?_
        rintro r w4 ⟨v, m, rfl, hO, hB⟩
        have HO4 := Lib.hid (Kd.R_lower (R_of_bytes hO) hz3)
        have hS4 := putS hHeld1 hB
        clear hO hC3 hG3 hw3 hz3
        refine ⟨_, rfl, ?_⟩
        refine hK.out _ _ hS4 (fun hHeld2 => ?_)
        clear hK K
        refine norm_ (a' := ?_) ?_ ?_
        rotate_left
        · show Act.put _ (some 18) _ = _
          simp only [Act.put, List.setIfInBounds_toArray, List.set_cons_zero, List.set_cons_succ, i64_w, i32_w]
          rfl
        refine tail_list 11 (t := [11, 12, 13]) (fuel := 0) rfl rfl rfl (by kernel_rfl) (by decide) ?_
        refine Kd.R_append_rows (w0 := w) (W := w4) (Kd.int .u8) (Rr := fun x cs => cs = [.int .u8 x]) w.heap.size rfl _ _ 22 5 (.int .u8 0) 1 rfl Tryd.underlying22 infoU8 rfl (by decide) (by decide) v (nmI (fieldsB [x.f0, x.f1, x.f3, 1])) x.f4 A n c (fun _ => True) (fun _ => False) rfl rfl HO4.out (Kd.C_below HC.out hHeld2.1) (fun x cs h => h) (fun _ h => h.elim) (fun _ _ => trivial) hHeld2.1 hHeld2.1.size ?hl2 ?hk2
        case hl2 =>
          have h1 := fields_small [x.f0, x.f1, x.f3, 1] (by
            intro y hy
            have h1 := HNUM.out.1
            have h2 := HNUM.out.2.1
            have h3 := HNUM.out.2.2.1
            simp at hy
            rcases hy with rfl | rfl | rfl | rfl
            · exact h1
            · exact h2
            · exact h3
            · unfold i64ok; omega)
          have h2 := HNUM.out.2.2.2
          have h3 := HL.out
          simp [nmI] at h1 ⊢
          omega
        case hk2 =>
          intro v1 w5 hR1 hB5 _ _
          have HR1 := Lib.hid hR1
          have HB5 := Lib.hid hB5
          clear hR1 hB5 hHeld1 hHeld2
          go_wp2_with fail
          go_ret2
          exact ⟨_, rfl, by simp only [if_true]; rw [HPUT.out]; exact HR1.out, HB5.out⟩
    | false =>
      rw [hh] at a2 HF2
      have hput : putB x = nmI (fieldsB [x.f0, x.f1, x.f3, 0]) ++ x.f4 := by unfold putB; rw [hh]; rfl
      have HPUT := Lib.hid hput
      clear hput hh
      go_upto_region 6 with (fail)
      refine start_ (S := fun w' => Below w.heap.size w w' ∧ w'.heap[w.heap.size]? = some (.cells #[.int .i64 x.f0, .int .i64 x.f1, .bool false, .int .i64 x.f3, .slice A n c] 24 (0, 0)) ∧ w'.cell? ⟨w.heap.size, 0, none⟩ = some (.int .i64 x.f0) ∧ w'.cell? ⟨w.heap.size, 1, none⟩ = some (.int .i64 x.f1) ∧ w'.cell? ⟨w.heap.size, 3, none⟩ = some (.int .i64 x.f3) ∧ w'.cell? ⟨w.heap.size, 4, none⟩ = some (.slice A n c)) (ds := [11, 12, 13]) (n := 14) #[false, false, false, false, false, false, false, false, false, false, false, false, false, false] rfl rfl rfl ?hS0 (fun hHeld => ?hrun)
      case hS0 => exact ⟨HB2.out.drew, HF2.out, a0, a1, a3, a4⟩
      case hrun =>
        refine pure_ (i := 0) (N := some 10) (v := ?_) (a' := ?_) #[true, false, false, false, false, false, false, false, false, false, false, false, false, false] rfl rfl (by kernel_rfl) (fun _ _ _ h => h) (Or.inl ⟨by rfl, ?_⟩) ?_ ?_
        rotate_left
        · intro w'
          go_simp
          first | done | with_reducible rfl
        rotate_left
        · simp only [Act.put, List.setIfInBounds_toArray, List.set_cons_zero, List.set_cons_succ, i64_w, i32_w]
          rfl
        refine take_ (i := 1) (N := some 11) (v := ?_) (a' := ?_) #[true, true, false, false, false, false, false, false, false, false, false, false, false, false] rfl rfl (by kernel_rfl) (fun _ _ _ h => h) (Or.inl ⟨by rfl, ?_⟩) hHeld ?_ ?_
        rotate_left
        · rintro w' ⟨_, _, s0, s1, s3, s4⟩
          go_simp
          first | done | with_reducible rfl
        rotate_left
        · simp only [Act.put, List.setIfInBounds_toArray, List.set_cons_zero, List.set_cons_succ, i64_w, i32_w]
          rfl
        refine pure_ (i := 2) (N := some 12) (v := ?_) (a' := ?_) #[true, true, true, false, false, false, false, false, false, false, false, false, false, false] rfl rfl (by kernel_rfl) (fun _ _ _ h => h) (Or.inl ⟨by rfl, ?_⟩) ?_ ?_
        rotate_left
        · intro w'
          go_simp
          first | done | with_reducible rfl
        rotate_left
        · simp only [Act.put, List.setIfInBounds_toArray, List.set_cons_zero, List.set_cons_succ, i64_w, i32_w]
          rfl
        refine take_ (i := 3) (N := some 13) (v := ?_) (a' := ?_) #[true, true, true, true, false, false, false, false, false, false, false, false, false, false] rfl rfl (by kernel_rfl) (fun _ _ _ h => h) (Or.inl ⟨by rfl, ?_⟩) hHeld ?_ ?_
        rotate_left
        · rintro w' ⟨_, _, s0, s1, s3, s4⟩
          go_simp
          first | done | with_reducible rfl
        rotate_left
        · simp only [Act.put, List.setIfInBounds_toArray, List.set_cons_zero, List.set_cons_succ, i64_w, i32_w]
          rfl
        refine pure_ (i := 4) (N := some 14) (v := ?_) (a' := ?_) #[true, true, true, true, true, false, false, false, false, false, false, false, false, false] rfl rfl (by kernel_rfl) (fun _ _ _ h => h) (Or.inl ⟨by rfl, ?_⟩) ?_ ?_
        rotate_left
        · intro w'
          go_simp
          first | done | with_reducible rfl
        rotate_left
        · simp only [Act.put, List.setIfInBounds_toArray, List.set_cons_zero, List.set_cons_succ, i64_w, i32_w]
          rfl
        refine take_ (i := 5) (N := some 15) (v := ?_) (a' := ?_) #[true, true, true, true, true, true, false, false, false, false, false, false, false, false] rfl rfl (by kernel_rfl) (fun _ _ _ h => h) (Or.inl ⟨by rfl, ?_⟩) hHeld ?_ ?_
        rotate_left
        · rintro w' ⟨_, _, s0, s1, s3, s4⟩
          go_simp
          first | done | with_reducible rfl
        rotate_left
        · simp only [Act.put, List.setIfInBounds_toArray, List.set_cons_zero, List.set_cons_succ, i64_w, i32_w]
          rfl
        refine pure_ (i := 6) (N := some 16) (v := ?_) (a' := ?_) #[true, true, true, true, true, true, true, false, false, false, false, false, false, false] rfl rfl (by kernel_rfl) (fun _ _ _ h => h) (Or.inl ⟨by rfl, ?_⟩) ?_ ?_
        rotate_left
        · intro w'
          go_simp
          first | done | with_reducible rfl
        rotate_left
        · simp only [Act.put, List.setIfInBounds_toArray, List.set_cons_zero, List.set_cons_succ, i64_w, i32_w]
          rfl
        refine pure_ (i := 9) (N := some 19) (v := ?_) (a' := ?_) #[true, true, true, true, true, true, true, false, false, true, false, false, false, false] rfl rfl (by kernel_rfl) (fun _ _ _ h => h) (Or.inl ⟨by rfl, ?_⟩) ?_ ?_
        rotate_left
        · intro w'
          go_simp
          first | done | with_reducible rfl
        rotate_left
        · simp only [Act.put, List.setIfInBounds_toArray, List.set_cons_zero, List.set_cons_succ, i64_w, i32_w]
          rfl
        refine take_ (i := 10) (N := some 20) (v := ?_) (a' := ?_) #[true, true, true, true, true, true, true, false, false, true, true, false, false, false] rfl rfl (by kernel_rfl) (fun _ _ _ h => h) (Or.inl ⟨by rfl, ?_⟩) hHeld ?_ ?_
        rotate_left
        · rintro w' ⟨_, _, s0, s1, s3, s4⟩
          go_simp
          first | done | with_reducible rfl
        rotate_left
        · simp only [Act.put, List.setIfInBounds_toArray, List.set_cons_zero, List.set_cons_succ, i64_w, i32_w]
          rfl
        refine one_ (i := 7) (N := some 17) #[true, true, true, true, true, true, true, true, false, true, true, false, false, false] rfl rfl (by kernel_rfl) (by decide) (fun K hK => ?_)
        refine value_ (by rfl) rfl (by go_simp; first | rfl | exact ⟨rfl, rfl⟩) ?_
        refine hK.out _ _ (putS hHeld ((Below.refl w2.heap.size w2.drew).alloc (Nat.le_refl _) _)) (fun hHeld1 => ?_)
        clear hK K
        refine norm_ (a' := ?_) ?_ ?_
        rotate_left
        · show Act.put _ (some 17) _ = _
          simp only [Act.put, List.setIfInBounds_toArray, List.set_cons_zero, List.set_cons_succ, i64_w, i32_w]
          rfl
        refine one_ (i := 8) (N := some 18) #[true, true, true, true, true, true, true, true, true, true, true, false, false, false] rfl rfl (by kernel_rfl) (by decide) (fun K hK => ?_)
        refine goes_ Tryd.func35 (by kernel_rfl) rfl #[.slice (some ⟨w2.heap.size, 0, none⟩) 4 4] (by rfl) rfl rfl (by (try simp only [List.map_toArray, List.map_cons, List.map_nil]); first | done | rfl) ?_
        obtain ⟨w3, hw3⟩ : ∃ w3, w3 = (w2.alloc (.cells #[.int .i64 x.f0, .int .i64 x.f1, .int .i64 x.f3, .int .i64 0] 2)).drew := ⟨_, rfl⟩
        have hC3 : Kd.C (Kd.int .i64) w3 (some ⟨w2.heap.size, 0, none⟩) 4 [x.f0, x.f1, x.f3, 0] := by rw [hw3]; exact Kd.C_drew (four_C w2 _ _ _ _ _)
        have hG3 : Ground w3 := HG.out.below (by have := hHeld1.1; rw [← hw3] at this; exact this)
        have hz3 : w.heap.size ≤ w3.heap.size := by rw [hw3]; have := HB2.out.size; simp; omega
        rw [← hw3] at hHeld1 ⊢
        have HZ3 := Lib.hid hz3
        refine (fields_any (some ⟨w2.heap.size, 0, none⟩) 4 4 [x.f0, x.f1, x.f3, 0] rfl w3 hC3 (by decide) (by
          intro y hy
          have h1 := HNUM.out.1
          have h2 := HNUM.out.2.1
          have h3 := HNUM.out.2.2.1
          simp at hy
          rcases hy with rfl | rfl | rfl | rfl
          · exact h1
          · exact h2
          · exact h3
          · unfold i64ok; omega) (Lib.tabBelow_of_tabIs hG3.tab)).mono ?_
        rintro r w4 ⟨v, m, rfl, hO, hB⟩
        have HO4 := Lib.hid (Kd.R_lower (R_of_bytes hO) hz3)
        have hS4 := putS hHeld1 hB
        clear hO hC3 hG3 hw3 hz3
        refine ⟨_, rfl, ?_⟩
        refine hK.out _ _ hS4 (fun hHeld2 => ?_)
        clear hK K
        refine norm_ (a' := ?_) ?_ ?_
        rotate_left
        · show Act.put _ (some 18) _ = _
          simp only [Act.put, List.setIfInBounds_toArray, List.set_cons_zero, List.set_cons_succ, i64_w, i32_w]
          rfl
        refine tail_list 11 (t := [11, 12, 13]) (fuel := 0) rfl rfl rfl (by kernel_rfl) (by decide) ?_
        refine Kd.R_append_rows (w0 := w) (W := w4) (Kd.int .u8) (Rr := fun x cs => cs = [.int .u8 x]) w.heap.size rfl _ _ 22 5 (.int .u8 0) 1 rfl Tryd.underlying22 infoU8 rfl (by decide) (by decide) v (nmI (fieldsB [x.f0, x.f1, x.f3, 0])) x.f4 A n c (fun _ => True) (fun _ => False) rfl rfl HO4.out (Kd.C_below HC.out hHeld2.1) (fun x cs h => h) (fun _ h => h.elim) (fun _ _ => trivial) hHeld2.1 hHeld2.1.size ?hl2 ?hk2
        case hl2 =>
          have h1 := fields_small [x.f0, x.f1, x.f3, 0] (by
            intro y hy
            have h1 := HNUM.out.1
            have h2 := HNUM.out.2.1
            have h3 := HNUM.out.2.2.1
            simp at hy
            rcases hy with rfl | rfl | rfl | rfl
            · exact h1
            · exact h2
            · exact h3
            · unfold i64ok; omega)
          have h2 := HNUM.out.2.2.2
          have h3 := HL.out
          simp [nmI] at h1 ⊢
          omega
        case hk2 =>
          intro v1 w5 hR1 hB5 _ _
          have HR1 := Lib.hid hR1
          have HB5 := Lib.hid hB5
          clear hR1 hB5 hHeld1 hHeld2
          go_wp2_with fail
          go_ret2
          exact ⟨_, rfl, by simp only [if_true]; rw [HPUT.out]; exact HR1.out, HB5.out⟩
end Go.Proofs.YthfgkkpibkkiaaaDoor
