/- The reference's Put: the walk. -/
import Derived.Test.YthfgkkpibkkiaaaDoorSessS
import Derived.Test.YthfgkkpibkkiaaaDoorSessL
set_option linter.unusedVariables false
set_option linter.unusedSimpArgs false
namespace Go.Proofs.YthfgkkpibkkiaaaDoor
open Go.RowKit Go.Proofs.YthfgkkpibkkiaaaDoorW.PrintWords Go.Proofs.YthfgkkpibkkiaaaDoorW.PrintLast Go.Proofs.YthfgkkpibkkiaaaDoor.PSessionPlays

def BxS (w0 : World) (x : S24) (v4 : Value) (w : World) : Prop :=
  (Below w0.heap.size w0 w ∧ w.heap[w0.heap.size]? = some (.cells #[.int .i64 x.f0, .int .i64 x.f1, .bool x.f2, .int .i64 x.f3, v4] 24 (0, 0))) ∧
  (w.cell? ⟨w0.heap.size, 0, none⟩ = some (.int .i64 x.f0) ∧ w.cell? ⟨w0.heap.size, 1, none⟩ = some (.int .i64 x.f1) ∧ w.cell? ⟨w0.heap.size, 2, none⟩ = some (.bool x.f2) ∧ w.cell? ⟨w0.heap.size, 3, none⟩ = some (.int .i64 x.f3) ∧ w.cell? ⟨w0.heap.size, 4, none⟩ = some v4)
theorem BxS.mk {w0 w : World} {x : S24} {v4 : Value} (h1 : Below w0.heap.size w0 w) (h2 : w.heap[w0.heap.size]? = some (.cells #[.int .i64 x.f0, .int .i64 x.f1, .bool x.f2, .int .i64 x.f3, v4] 24 (0, 0))) : BxS w0 x v4 w := ⟨⟨h1, h2⟩, cells5 h2⟩
theorem BxS.step {w0 w w' : World} {x : S24} {v4 : Value} (h : BxS w0 x v4 w) (k : Below w.heap.size w w') : BxS w0 x v4 w' := BxS.mk (h.1.1.trans (k.mono h.1.1.size)) (blk_below h.1.2 k)
def strO (x : S24) (has : List UInt8) : List UInt8 := Lib.itoa x.f0 ++ [32] ++ Lib.itoa x.f1 ++ [32] ++ Lib.itoa x.f3 ++ [32] ++ has
theorem builtin_step {P : Program} {ops : Array Oper} {rest : List Oper} {o : Oper} {a : Act} {Q : Exit → Act → World → Prop} {W w1 : World} (hgd : o.guard = none) (s x : Operand) (t : TypeId) (ho : o.op = .call { callee := .builtin .append, args := #[s, x], argTypes := #[t, t] }) (v xv v1 : Value) (hs : a.eval s = v) (hx : a.eval x = xv)
    (hr : (Builtin.append_ #[t, t] o.type #[v, xv]).run P W = .ok v1 w1) (h : wpList P ops Q rest (a.put o.dst v1) w1) : wpList P ops Q (o :: rest) a W := by
  refine wpList_plain hgd fun K hK => ?_
  unfold Oper.wp execOp
  simp only [ho, resolve, invoke, builtin, Sem.run_bind, Sem.run_pure, Result.andThen_ok, List.map_toArray, List.map_cons, List.map_nil, hs, hx, hr]
  exact hK _ _ h
theorem itoa_small (n : Int) (h : i64ok n) : (Lib.itoa n).length ≤ 21 := by
  have := fields_small [n] (by intro y hy; simp at hy; subst hy; exact h)
  unfold fieldsB at this
  simp at this
  omega
set_option maxRecDepth 100000 in
set_option maxHeartbeats 4000000 in
theorem rput_any (x : S24) (A : Option Addr) (n c : Nat) (hl : x.f4.length = n) (w : World) (hC : Kd.C (Kd.int .u8) w A n x.f4) (hc : n ≤ c) (hG : Ground w) :
    Calls Tryd.prog 32 #[.agg #[.int .i64 x.f0, .int .i64 x.f1, .bool x.f2, .int .i64 x.f3, .slice A n c]] w fun r w' => Below w.heap.size w w' ∧
      ((okF x = true ∧ ∃ Ap m cp, r = .returned (.tuple #[.slice (some Ap) m cp, .int .i64 0]) ∧ (putB x).length = m ∧ m ≤ cp ∧ Kd.C (Kd.int .u8) w' (some Ap) m (putB x)) ∨ (okF x = false ∧ r = .returned (.tuple #[.slice none 0 0, .int .i64 1]))) := by
  obtain ⟨w1, hw1⟩ : ∃ w1, w1 = w.alloc (.cells #[.int .i64 x.f0, .int .i64 x.f1, .bool x.f2, .int .i64 x.f3, .slice A n c] 24) := ⟨_, rfl⟩
  have hB1 : Below w.heap.size w w1 := by rw [hw1]; exact (Below.refl _ _).alloc (Nat.le_refl _) _
  have hS1 := BxS.mk (x := x) hB1 (by rw [hw1]; exact heap_alloc_new w _)
  have HS1 := Lib.hid hS1
  have HW1 := Lib.hid hw1
  have HC := Lib.hid hC
  have HL := Lib.hid hl
  have HG := Lib.hid hG
  have HR := Lib.hid (rright_any x A n c w1 hl (Kd.C_below hC hB1) hc)
  obtain ⟨_, a0, a1, a2, a3, a4⟩ := hS1
  obtain ⟨q, hq⟩ : ∃ q, q = okF x := ⟨_, rfl⟩
  have HQ := Lib.hid hq
  have hlt1 : w.heap.size < w1.heap.size := blk_lt HS1.out.1.2
  rw [hw1] at a0 a1 a2 a3 a4 hlt1
  clear hw1 hB1 hC hl hG hc hq
  go_enter Tryd.func32, Tryd.ntmps32
  go_wp2_with fail
  rw [← HW1.out]
  refine HR.out.mono ?_
  rintro r w2 ⟨rfl, hB2⟩
  rw [← HQ.out]
  have HS2 := Lib.hid (HS1.out.step hB2)
  clear hB2 HR a0 a1 a2 a3 a4 hlt1
  cases q with
  | false =>
    go_wp2_with fail
    go_ret2
    exact ⟨HS2.out.1.1, .inr ⟨HQ.out.symm, rfl⟩⟩
  | true =>
    have hnum := okF_nums HQ.out.symm
    obtain ⟨_, a0, a1, a2, a3, a4⟩ := HS2.out
    have hlt2 : w.heap.size < w2.heap.size := blk_lt HS2.out.1.2
    have HNUM := Lib.hid hnum
    obtain ⟨t0, ht0⟩ : ∃ t, t = Lib.itoa x.f0 := ⟨_, rfl⟩
    obtain ⟨t1, ht1⟩ : ∃ t, t = Lib.itoa x.f1 := ⟨_, rfl⟩
    obtain ⟨t3, ht3⟩ : ∃ t, t = Lib.itoa x.f3 := ⟨_, rfl⟩
    have hs0 : t0.length ≤ 21 := by rw [ht0]; exact itoa_small _ hnum.1
    have hs1 : t1.length ≤ 21 := by rw [ht1]; exact itoa_small _ hnum.2.1
    have hs3 : t3.length ≤ 21 := by rw [ht3]; exact itoa_small _ hnum.2.2.1
    have HT := Lib.hid (And.intro ht0 (And.intro ht1 ht3))
    clear hnum ht0 ht1 ht3
    obtain ⟨hh, hhh⟩ : ∃ h, h = x.f2 := ⟨_, rfl⟩
    rw [← hhh] at a2
    have HHH := Lib.hid hhh
    clear hhh
    cases hh with
    | false =>
      go_upto_region 6 with (fail)
      refine start_ (S := BxS w x (.slice A n c)) (ds := [16]) (n := 17) #[false, false, false, false, false, false, false, false, false, false, false, false, false, false, false, false, false] rfl rfl rfl ?hS0 (fun hHeld => ?hrun)
      case hS0 => exact HS2.out.step (Below.refl _ _).drew
      case hrun =>
        refine pure_ (i := 0) (N := some 11) (v := ?_) (a' := ?_) #[true, false, false, false, false, false, false, false, false, false, false, false, false, false, false, false, false] rfl rfl (by kernel_rfl) (fun _ _ _ h => h) (Or.inl ⟨by rfl, ?_⟩) ?_ ?_
        rotate_left
        · intro w'
          go_simp
          first | done | with_reducible rfl
        rotate_left
        · simp only [Act.put, List.setIfInBounds_toArray, List.set_cons_zero, List.set_cons_succ, i64_w, i32_w]
          rfl
        refine take_ (i := 1) (N := some 12) (v := ?_) (a' := ?_) #[true, true, false, false, false, false, false, false, false, false, false, false, false, false, false, false, false] rfl rfl (by kernel_rfl) (fun _ _ _ h => h) (Or.inl ⟨by rfl, ?_⟩) hHeld ?_ ?_
        rotate_left
        · rintro w' ⟨_, s0, s1, s2, s3, s4⟩
          go_simp
          first | done | with_reducible rfl
        rotate_left
        · simp only [Act.put, List.setIfInBounds_toArray, List.set_cons_zero, List.set_cons_succ, i64_w, i32_w]
          rfl
        refine pure_ (i := 4) (N := some 15) (v := ?_) (a' := ?_) #[true, true, false, false, true, false, false, false, false, false, false, false, false, false, false, false, false] rfl rfl (by kernel_rfl) (fun _ _ _ h => h) (Or.inl ⟨by rfl, ?_⟩) ?_ ?_
        rotate_left
        · intro w'
          go_simp
          first | done | with_reducible rfl
        rotate_left
        · simp only [Act.put, List.setIfInBounds_toArray, List.set_cons_zero, List.set_cons_succ, i64_w, i32_w]
          rfl
        refine take_ (i := 5) (N := some 16) (v := ?_) (a' := ?_) #[true, true, false, false, true, true, false, false, false, false, false, false, false, false, false, false, false] rfl rfl (by kernel_rfl) (fun _ _ _ h => h) (Or.inl ⟨by rfl, ?_⟩) hHeld ?_ ?_
        rotate_left
        · rintro w' ⟨_, s0, s1, s2, s3, s4⟩
          go_simp
          first | done | with_reducible rfl
        rotate_left
        · simp only [Act.put, List.setIfInBounds_toArray, List.set_cons_zero, List.set_cons_succ, i64_w, i32_w]
          rfl
        refine pure_ (i := 9) (N := some 20) (v := ?_) (a' := ?_) #[true, true, false, false, true, true, false, false, false, true, false, false, false, false, false, false, false] rfl rfl (by kernel_rfl) (fun _ _ _ h => h) (Or.inl ⟨by rfl, ?_⟩) ?_ ?_
        rotate_left
        · intro w'
          go_simp
          first | done | with_reducible rfl
        rotate_left
        · simp only [Act.put, List.setIfInBounds_toArray, List.set_cons_zero, List.set_cons_succ, i64_w, i32_w]
          rfl
        refine take_ (i := 10) (N := some 21) (v := ?_) (a' := ?_) #[true, true, false, false, true, true, false, false, false, true, true, false, false, false, false, false, false] rfl rfl (by kernel_rfl) (fun _ _ _ h => h) (Or.inl ⟨by rfl, ?_⟩) hHeld ?_ ?_
        rotate_left
        · rintro w' ⟨_, s0, s1, s2, s3, s4⟩
          go_simp
          first | done | with_reducible rfl
        rotate_left
        · simp only [Act.put, List.setIfInBounds_toArray, List.set_cons_zero, List.set_cons_succ, i64_w, i32_w]
          rfl
        refine pure_ (i := 14) (N := some 25) (v := ?_) (a' := ?_) #[true, true, false, false, true, true, false, false, false, true, true, false, false, false, true, false, false] rfl rfl (by kernel_rfl) (fun _ _ _ h => h) (Or.inl ⟨by rfl, ?_⟩) ?_ ?_
        rotate_left
        · intro w'
          go_simp
          first | done | with_reducible rfl
        rotate_left
        · simp only [Act.put, List.setIfInBounds_toArray, List.set_cons_zero, List.set_cons_succ, i64_w, i32_w]
          rfl
        refine one_ (i := 2) (N := some 13) #[true, true, true, false, true, true, false, false, false, true, true, false, false, false, true, false, false] rfl rfl (by kernel_rfl) (by decide) (fun K hK => ?_)
        refine goes_ Tryd.func44 (by kernel_rfl) rfl #[.int .i64 x.f0, .int .i64 10] (by rfl) rfl rfl (by (try simp only [List.map_toArray, List.map_cons, List.map_nil]); first | done | rfl) ?_
        refine (fmt_any x.f0 HNUM.out.1 w2.drew ((HG.out.below HS2.out.1.1).below (Below.refl _ _).drew)).mono ?_
        rintro r w3 ⟨rfl, hB3⟩
        rw [← HT.out.1]
        have HS3 := Lib.hid (HS2.out.step ((Below.refl _ _).drew.trans hB3))
        clear hB3 hHeld
        refine ⟨_, rfl, ?_⟩
        refine hK.out _ _ HS3.out (fun hHeld1 => ?_)
        clear hK K
        refine norm_ (a' := ?_) ?_ ?_
        rotate_left
        · show Act.put _ (some 13) _ = _
          simp only [Act.put, List.setIfInBounds_toArray, List.set_cons_zero, List.set_cons_succ, i64_w, i32_w]
          rfl
        refine pure_ (i := 3) (N := some 14) (v := ?_) (a' := ?_) #[true, true, true, true, true, true, false, false, false, true, true, false, false, false, true, false, false] rfl rfl (by kernel_rfl) (fun _ _ _ h => h) (Or.inl ⟨by rfl, ?_⟩) ?_ ?_
        rotate_left
        · intro w'
          go_simp; rw [if_neg (by simp [ByteArray.size_append]; omega)]
          first | done | with_reducible rfl
        rotate_left
        · simp only [Act.put, List.setIfInBounds_toArray, List.set_cons_zero, List.set_cons_succ, i64_w, i32_w]
          rfl
        refine one_ (i := 6) (N := some 17) #[true, true, true, true, true, true, true, false, false, true, true, false, false, false, true, false, false] rfl rfl (by kernel_rfl) (by decide) (fun K hK => ?_)
        refine goes_ Tryd.func45 (by kernel_rfl) rfl #[.int .i64 x.f1] (by rfl) rfl rfl (by (try simp only [List.map_toArray, List.map_cons, List.map_nil]); first | done | rfl) ?_
        refine (itoa_any x.f1 HNUM.out.2.1 w3 (HG.out.below HS3.out.1.1)).mono ?_
        rintro r w4 ⟨rfl, hB4⟩
        rw [← HT.out.2.1]
        have HS4 := Lib.hid (HS3.out.step hB4)
        clear hB4 hHeld1
        refine ⟨_, rfl, ?_⟩
        refine hK.out _ _ HS4.out (fun hHeld2 => ?_)
        clear hK K
        refine norm_ (a' := ?_) ?_ ?_
        rotate_left
        · show Act.put _ (some 17) _ = _
          simp only [Act.put, List.setIfInBounds_toArray, List.set_cons_zero, List.set_cons_succ, i64_w, i32_w]
          rfl
        refine pure_ (i := 7) (N := some 18) (v := ?_) (a' := ?_) #[true, true, true, true, true, true, true, true, false, true, true, false, false, false, true, false, false] rfl rfl (by kernel_rfl) (fun _ _ _ h => h) (Or.inl ⟨by rfl, ?_⟩) ?_ ?_
        rotate_left
        · intro w'
          go_simp; rw [if_neg (by simp [ByteArray.size_append]; omega)]
          first | done | with_reducible rfl
        rotate_left
        · simp only [Act.put, List.setIfInBounds_toArray, List.set_cons_zero, List.set_cons_succ, i64_w, i32_w]
          rfl
        refine pure_ (i := 8) (N := some 19) (v := ?_) (a' := ?_) #[true, true, true, true, true, true, true, true, true, true, true, false, false, false, true, false, false] rfl rfl (by kernel_rfl) (fun _ _ _ h => h) (Or.inl ⟨by rfl, ?_⟩) ?_ ?_
        rotate_left
        · intro w'
          go_simp; rw [if_neg (by simp [ByteArray.size_append]; omega)]
          first | done | with_reducible rfl
        rotate_left
        · simp only [Act.put, List.setIfInBounds_toArray, List.set_cons_zero, List.set_cons_succ, i64_w, i32_w]
          rfl
        refine one_ (i := 11) (N := some 22) #[true, true, true, true, true, true, true, true, true, true, true, true, false, false, true, false, false] rfl rfl (by kernel_rfl) (by decide) (fun K hK => ?_)
        refine goes_ Tryd.func45 (by kernel_rfl) rfl #[.int .i64 x.f3] (by rfl) rfl rfl (by (try simp only [List.map_toArray, List.map_cons, List.map_nil]); first | done | rfl) ?_
        refine (itoa_any x.f3 HNUM.out.2.2.1 w4 (HG.out.below HS4.out.1.1)).mono ?_
        rintro r w5 ⟨rfl, hB5⟩
        rw [← HT.out.2.2]
        have HS5 := Lib.hid (HS4.out.step hB5)
        clear hB5 hHeld2
        refine ⟨_, rfl, ?_⟩
        refine hK.out _ _ HS5.out (fun hHeld3 => ?_)
        clear hK K
        refine norm_ (a' := ?_) ?_ ?_
        rotate_left
        · show Act.put _ (some 22) _ = _
          simp only [Act.put, List.setIfInBounds_toArray, List.set_cons_zero, List.set_cons_succ, i64_w, i32_w]
          rfl
        refine pure_ (i := 12) (N := some 23) (v := ?_) (a' := ?_) #[true, true, true, true, true, true, true, true, true, true, true, true, true, false, true, false, false] rfl rfl (by kernel_rfl) (fun _ _ _ h => h) (Or.inl ⟨by rfl, ?_⟩) ?_ ?_
        rotate_left
        · intro w'
          go_simp; rw [if_neg (by simp [ByteArray.size_append]; omega)]
          first | done | with_reducible rfl
        rotate_left
        · simp only [Act.put, List.setIfInBounds_toArray, List.set_cons_zero, List.set_cons_succ, i64_w, i32_w]
          rfl
        refine pure_ (i := 13) (N := some 24) (v := ?_) (a' := ?_) #[true, true, true, true, true, true, true, true, true, true, true, true, true, true, true, false, false] rfl rfl (by kernel_rfl) (fun _ _ _ h => h) (Or.inl ⟨by rfl, ?_⟩) ?_ ?_
        rotate_left
        · intro w'
          go_simp; rw [if_neg (by simp [ByteArray.size_append]; omega)]
          first | done | with_reducible rfl
        rotate_left
        · simp only [Act.put, List.setIfInBounds_toArray, List.set_cons_zero, List.set_cons_succ, i64_w, i32_w]
          rfl
        refine pure_ (i := 15) (N := some 26) (v := ?_) (a' := ?_) #[true, true, true, true, true, true, true, true, true, true, true, true, true, true, true, true, false] rfl rfl (by kernel_rfl) (fun _ _ _ h => h) (Or.inl ⟨by rfl, ?_⟩) ?_ ?_
        rotate_left
        · intro w'
          go_simp; rw [if_neg (by simp [ByteArray.size_append]; omega)]
          first | done | with_reducible rfl
        rotate_left
        · simp only [Act.put, List.setIfInBounds_toArray, List.set_cons_zero, List.set_cons_succ, i64_w, i32_w]
          rfl
        refine tail_list 16 (t := [16]) (fuel := 0) rfl rfl rfl (by kernel_rfl) (by decide) ?_
        obtain ⟨st, hst⟩ : ∃ st : ByteArray, st = ({ data := t0.toArray } ++ { data := #[32] } ++ { data := t1.toArray } ++ { data := #[32] } ++ { data := t3.toArray } ++ { data := #[32] } ++ { data := #[48, 32] }) := ⟨_, rfl⟩
        rw [← hst]
        have hsl : st.data.toList = fieldsB [x.f0, x.f1, x.f3, 0] := by
          rw [hst]
          unfold fieldsB
          have hit : Lib.itoa (0 : Int) = [48] := by rw [show (0 : Int) = ((0 : Nat) : Int) from rfl, Lib.itoa_nonneg, decDigits_small (by omega)]; rfl
          simp [ByteArray.data_append, HT.out.1, HT.out.2.1, HT.out.2.2, hit]
        have hss : st.size ≤ 88 := by
          have h1 := fields_small [x.f0, x.f1, x.f3, 0] (by
            intro y hy
            simp at hy
            rcases hy with rfl | rfl | rfl | rfl
            · exact HNUM.out.1
            · exact HNUM.out.2.1
            · exact HNUM.out.2.2.1
            · unfold i64ok; omega)
          rw [← hsl] at h1
          simp at h1
          omega
        have hn2 : n ≤ 32768 := by rw [← HL.out]; exact HNUM.out.2.2.2
        have hap := append_conv w5 st A n c x.f4 (Kd.C_below HC.out HS5.out.1.1) (by omega)
        obtain ⟨A1, c1, w7, hr7, hc7, hC7, hB7⟩ := hap
        have hput : nmI st.data.toList ++ x.f4 = putB x := by
          unfold putB
          rw [hsl, ← HHH.out]
          rfl
        rw [hput] at hC7
        have HS6 := Lib.hid (HS5.out.step (Lib.bytesWorld_below w5 5 st))
        have HS7 := Lib.hid (HS5.out.step hB7)
        have HEND := Lib.hid (And.intro hC7 (And.intro hc7 (And.intro hr7 (show (putB x).length = st.size + n from by rw [← hput, List.length_append, HL.out]; simp [nmI]))))
        clear hst hsl hC7 hc7 hB7 hput hr7 hHeld3 a0 a1 a2 a3 a4 hs0 hs1 hs3 hlt2
        obtain ⟨_, b0, b1, b2, b3, b4⟩ := HS6.out
        have hlt6 : w.heap.size < (Lib.bytesWorld w5 5 st).heap.size := blk_lt HS6.out.1.2
        go_upto_region 7 with (fail)
        go_wp2_with fail
        rw [Lib.run_convert_string_bytes w5 9 22 5 st Tryd.underlying9 Tryd.underlying22 Tryd.underlying5]
        simp only [Result.andThen]
        rw [Oper.upon_value]
        obtain ⟨cap, hcap⟩ : ∃ k, k = grownCap w5 st.size 0 5 := ⟨_, rfl⟩
        obtain ⟨w6, hw6⟩ : ∃ w6, w6 = Lib.bytesWorld w5 5 st := ⟨_, rfl⟩
        have HR7 := Lib.hid HEND.out.2.2.1
        rw [← hcap, ← hw6] at HR7
        rw [← hw6] at b0 b1 b2 b3 b4 hlt6
        rw [← hcap, ← hw6]
        clear hcap hw6
        go_wp2_with (at_builtin; refine builtin_step rfl _ _ _ rfl _ _ _ rfl rfl HR7.out ?_)
        go_ret2
        exact ⟨HS7.out.1.1, .inl ⟨HQ.out.symm, A1, st.size + n, c1, rfl, HEND.out.2.2.2, HEND.out.2.1, HEND.out.1⟩⟩
    | true =>
      go_upto_region 6 with (fail)
      refine start_ (S := BxS w x (.slice A n c)) (ds := [16]) (n := 17) #[false, false, false, false, false, false, false, false, false, false, false, false, false, false, false, false, false] rfl rfl rfl ?hS0 (fun hHeld => ?hrun)
      case hS0 => exact HS2.out.step (Below.refl _ _).drew
      case hrun =>
        refine pure_ (i := 0) (N := some 11) (v := ?_) (a' := ?_) #[true, false, false, false, false, false, false, false, false, false, false, false, false, false, false, false, false] rfl rfl (by kernel_rfl) (fun _ _ _ h => h) (Or.inl ⟨by rfl, ?_⟩) ?_ ?_
        rotate_left
        · intro w'
          go_simp
          first | done | with_reducible rfl
        rotate_left
        · simp only [Act.put, List.setIfInBounds_toArray, List.set_cons_zero, List.set_cons_succ, i64_w, i32_w]
          rfl
        refine take_ (i := 1) (N := some 12) (v := ?_) (a' := ?_) #[true, true, false, false, false, false, false, false, false, false, false, false, false, false, false, false, false] rfl rfl (by kernel_rfl) (fun _ _ _ h => h) (Or.inl ⟨by rfl, ?_⟩) hHeld ?_ ?_
        rotate_left
        · rintro w' ⟨_, s0, s1, s2, s3, s4⟩
          go_simp
          first | done | with_reducible rfl
        rotate_left
        · simp only [Act.put, List.setIfInBounds_toArray, List.set_cons_zero, List.set_cons_succ, i64_w, i32_w]
          rfl
        refine pure_ (i := 4) (N := some 15) (v := ?_) (a' := ?_) #[true, true, false, false, true, false, false, false, false, false, false, false, false, false, false, false, false] rfl rfl (by kernel_rfl) (fun _ _ _ h => h) (Or.inl ⟨by rfl, ?_⟩) ?_ ?_
        rotate_left
        · intro w'
          go_simp
          first | done | with_reducible rfl
        rotate_left
        · simp only [Act.put, List.setIfInBounds_toArray, List.set_cons_zero, List.set_cons_succ, i64_w, i32_w]
          rfl
        refine take_ (i := 5) (N := some 16) (v := ?_) (a' := ?_) #[true, true, false, false, true, true, false, false, false, false, false, false, false, false, false, false, false] rfl rfl (by kernel_rfl) (fun _ _ _ h => h) (Or.inl ⟨by rfl, ?_⟩) hHeld ?_ ?_
        rotate_left
        · rintro w' ⟨_, s0, s1, s2, s3, s4⟩
          go_simp
          first | done | with_reducible rfl
        rotate_left
        · simp only [Act.put, List.setIfInBounds_toArray, List.set_cons_zero, List.set_cons_succ, i64_w, i32_w]
          rfl
        refine pure_ (i := 9) (N := some 20) (v := ?_) (a' := ?_) #[true, true, false, false, true, true, false, false, false, true, false, false, false, false, false, false, false] rfl rfl (by kernel_rfl) (fun _ _ _ h => h) (Or.inl ⟨by rfl, ?_⟩) ?_ ?_
        rotate_left
        · intro w'
          go_simp
          first | done | with_reducible rfl
        rotate_left
        · simp only [Act.put, List.setIfInBounds_toArray, List.set_cons_zero, List.set_cons_succ, i64_w, i32_w]
          rfl
        refine take_ (i := 10) (N := some 21) (v := ?_) (a' := ?_) #[true, true, false, false, true, true, false, false, false, true, true, false, false, false, false, false, false] rfl rfl (by kernel_rfl) (fun _ _ _ h => h) (Or.inl ⟨by rfl, ?_⟩) hHeld ?_ ?_
        rotate_left
        · rintro w' ⟨_, s0, s1, s2, s3, s4⟩
          go_simp
          first | done | with_reducible rfl
        rotate_left
        · simp only [Act.put, List.setIfInBounds_toArray, List.set_cons_zero, List.set_cons_succ, i64_w, i32_w]
          rfl
        refine pure_ (i := 14) (N := some 25) (v := ?_) (a' := ?_) #[true, true, false, false, true, true, false, false, false, true, true, false, false, false, true, false, false] rfl rfl (by kernel_rfl) (fun _ _ _ h => h) (Or.inl ⟨by rfl, ?_⟩) ?_ ?_
        rotate_left
        · intro w'
          go_simp
          first | done | with_reducible rfl
        rotate_left
        · simp only [Act.put, List.setIfInBounds_toArray, List.set_cons_zero, List.set_cons_succ, i64_w, i32_w]
          rfl
        refine one_ (i := 2) (N := some 13) #[true, true, true, false, true, true, false, false, false, true, true, false, false, false, true, false, false] rfl rfl (by kernel_rfl) (by decide) (fun K hK => ?_)
        refine goes_ Tryd.func44 (by kernel_rfl) rfl #[.int .i64 x.f0, .int .i64 10] (by rfl) rfl rfl (by (try simp only [List.map_toArray, List.map_cons, List.map_nil]); first | done | rfl) ?_
        refine (fmt_any x.f0 HNUM.out.1 w2.drew ((HG.out.below HS2.out.1.1).below (Below.refl _ _).drew)).mono ?_
        rintro r w3 ⟨rfl, hB3⟩
        rw [← HT.out.1]
        have HS3 := Lib.hid (HS2.out.step ((Below.refl _ _).drew.trans hB3))
        clear hB3 hHeld
        refine ⟨_, rfl, ?_⟩
        refine hK.out _ _ HS3.out (fun hHeld1 => ?_)
        clear hK K
        refine norm_ (a' := ?_) ?_ ?_
        rotate_left
        · show Act.put _ (some 13) _ = _
          simp only [Act.put, List.setIfInBounds_toArray, List.set_cons_zero, List.set_cons_succ, i64_w, i32_w]
          rfl
        refine pure_ (i := 3) (N := some 14) (v := ?_) (a' := ?_) #[true, true, true, true, true, true, false, false, false, true, true, false, false, false, true, false, false] rfl rfl (by kernel_rfl) (fun _ _ _ h => h) (Or.inl ⟨by rfl, ?_⟩) ?_ ?_
        rotate_left
        · intro w'
          go_simp; rw [if_neg (by simp [ByteArray.size_append]; omega)]
          first | done | with_reducible rfl
        rotate_left
        · simp only [Act.put, List.setIfInBounds_toArray, List.set_cons_zero, List.set_cons_succ, i64_w, i32_w]
          rfl
        refine one_ (i := 6) (N := some 17) #[true, true, true, true, true, true, true, false, false, true, true, false, false, false, true, false, false] rfl rfl (by kernel_rfl) (by decide) (fun K hK => ?_)
        refine goes_ Tryd.func45 (by kernel_rfl) rfl #[.int .i64 x.f1] (by rfl) rfl rfl (by (try simp only [List.map_toArray, List.map_cons, List.map_nil]); first | done | rfl) ?_
        refine (itoa_any x.f1 HNUM.out.2.1 w3 (HG.out.below HS3.out.1.1)).mono ?_
        rintro r w4 ⟨rfl, hB4⟩
        rw [← HT.out.2.1]
        have HS4 := Lib.hid (HS3.out.step hB4)
        clear hB4 hHeld1
        refine ⟨_, rfl, ?_⟩
        refine hK.out _ _ HS4.out (fun hHeld2 => ?_)
        clear hK K
        refine norm_ (a' := ?_) ?_ ?_
        rotate_left
        · show Act.put _ (some 17) _ = _
          simp only [Act.put, List.setIfInBounds_toArray, List.set_cons_zero, List.set_cons_succ, i64_w, i32_w]
          rfl
        refine pure_ (i := 7) (N := some 18) (v := ?_) (a' := ?_) #[true, true, true, true, true, true, true, true, false, true, true, false, false, false, true, false, false] rfl rfl (by kernel_rfl) (fun _ _ _ h => h) (Or.inl ⟨by rfl, ?_⟩) ?_ ?_
        rotate_left
        · intro w'
          go_simp; rw [if_neg (by simp [ByteArray.size_append]; omega)]
          first | done | with_reducible rfl
        rotate_left
        · simp only [Act.put, List.setIfInBounds_toArray, List.set_cons_zero, List.set_cons_succ, i64_w, i32_w]
          rfl
        refine pure_ (i := 8) (N := some 19) (v := ?_) (a' := ?_) #[true, true, true, true, true, true, true, true, true, true, true, false, false, false, true, false, false] rfl rfl (by kernel_rfl) (fun _ _ _ h => h) (Or.inl ⟨by rfl, ?_⟩) ?_ ?_
        rotate_left
        · intro w'
          go_simp; rw [if_neg (by simp [ByteArray.size_append]; omega)]
          first | done | with_reducible rfl
        rotate_left
        · simp only [Act.put, List.setIfInBounds_toArray, List.set_cons_zero, List.set_cons_succ, i64_w, i32_w]
          rfl
        refine one_ (i := 11) (N := some 22) #[true, true, true, true, true, true, true, true, true, true, true, true, false, false, true, false, false] rfl rfl (by kernel_rfl) (by decide) (fun K hK => ?_)
        refine goes_ Tryd.func45 (by kernel_rfl) rfl #[.int .i64 x.f3] (by rfl) rfl rfl (by (try simp only [List.map_toArray, List.map_cons, List.map_nil]); first | done | rfl) ?_
        refine (itoa_any x.f3 HNUM.out.2.2.1 w4 (HG.out.below HS4.out.1.1)).mono ?_
        rintro r w5 ⟨rfl, hB5⟩
        rw [← HT.out.2.2]
        have HS5 := Lib.hid (HS4.out.step hB5)
        clear hB5 hHeld2
        refine ⟨_, rfl, ?_⟩
        refine hK.out _ _ HS5.out (fun hHeld3 => ?_)
        clear hK K
        refine norm_ (a' := ?_) ?_ ?_
        rotate_left
        · show Act.put _ (some 22) _ = _
          simp only [Act.put, List.setIfInBounds_toArray, List.set_cons_zero, List.set_cons_succ, i64_w, i32_w]
          rfl
        refine pure_ (i := 12) (N := some 23) (v := ?_) (a' := ?_) #[true, true, true, true, true, true, true, true, true, true, true, true, true, false, true, false, false] rfl rfl (by kernel_rfl) (fun _ _ _ h => h) (Or.inl ⟨by rfl, ?_⟩) ?_ ?_
        rotate_left
        · intro w'
          go_simp; rw [if_neg (by simp [ByteArray.size_append]; omega)]
          first | done | with_reducible rfl
        rotate_left
        · simp only [Act.put, List.setIfInBounds_toArray, List.set_cons_zero, List.set_cons_succ, i64_w, i32_w]
          rfl
        refine pure_ (i := 13) (N := some 24) (v := ?_) (a' := ?_) #[true, true, true, true, true, true, true, true, true, true, true, true, true, true, true, false, false] rfl rfl (by kernel_rfl) (fun _ _ _ h => h) (Or.inl ⟨by rfl, ?_⟩) ?_ ?_
        rotate_left
        · intro w'
          go_simp; rw [if_neg (by simp [ByteArray.size_append]; omega)]
          first | done | with_reducible rfl
        rotate_left
        · simp only [Act.put, List.setIfInBounds_toArray, List.set_cons_zero, List.set_cons_succ, i64_w, i32_w]
          rfl
        refine pure_ (i := 15) (N := some 26) (v := ?_) (a' := ?_) #[true, true, true, true, true, true, true, true, true, true, true, true, true, true, true, true, false] rfl rfl (by kernel_rfl) (fun _ _ _ h => h) (Or.inl ⟨by rfl, ?_⟩) ?_ ?_
        rotate_left
        · intro w'
          go_simp; rw [if_neg (by simp [ByteArray.size_append]; omega)]
          first | done | with_reducible rfl
        rotate_left
        · simp only [Act.put, List.setIfInBounds_toArray, List.set_cons_zero, List.set_cons_succ, i64_w, i32_w]
          rfl
        refine tail_list 16 (t := [16]) (fuel := 0) rfl rfl rfl (by kernel_rfl) (by decide) ?_
        obtain ⟨st, hst⟩ : ∃ st : ByteArray, st = ({ data := t0.toArray } ++ { data := #[32] } ++ { data := t1.toArray } ++ { data := #[32] } ++ { data := t3.toArray } ++ { data := #[32] } ++ { data := #[49, 32] }) := ⟨_, rfl⟩
        rw [← hst]
        have hsl : st.data.toList = fieldsB [x.f0, x.f1, x.f3, 1] := by
          rw [hst]
          unfold fieldsB
          have hit : Lib.itoa (1 : Int) = [49] := by rw [show (1 : Int) = ((1 : Nat) : Int) from rfl, Lib.itoa_nonneg, decDigits_small (by omega)]; rfl
          simp [ByteArray.data_append, HT.out.1, HT.out.2.1, HT.out.2.2, hit]
        have hss : st.size ≤ 88 := by
          have h1 := fields_small [x.f0, x.f1, x.f3, 1] (by
            intro y hy
            simp at hy
            rcases hy with rfl | rfl | rfl | rfl
            · exact HNUM.out.1
            · exact HNUM.out.2.1
            · exact HNUM.out.2.2.1
            · unfold i64ok; omega)
          rw [← hsl] at h1
          simp at h1
          omega
        have hn2 : n ≤ 32768 := by rw [← HL.out]; exact HNUM.out.2.2.2
        have hap := append_conv w5 st A n c x.f4 (Kd.C_below HC.out HS5.out.1.1) (by omega)
        obtain ⟨A1, c1, w7, hr7, hc7, hC7, hB7⟩ := hap
        have hput : nmI st.data.toList ++ x.f4 = putB x := by
          unfold putB
          rw [hsl, ← HHH.out]
          rfl
        rw [hput] at hC7
        have HS6 := Lib.hid (HS5.out.step (Lib.bytesWorld_below w5 5 st))
        have HS7 := Lib.hid (HS5.out.step hB7)
        have HEND := Lib.hid (And.intro hC7 (And.intro hc7 (And.intro hr7 (show (putB x).length = st.size + n from by rw [← hput, List.length_append, HL.out]; simp [nmI]))))
        clear hst hsl hC7 hc7 hB7 hput hr7 hHeld3 a0 a1 a2 a3 a4 hs0 hs1 hs3 hlt2
        obtain ⟨_, b0, b1, b2, b3, b4⟩ := HS6.out
        have hlt6 : w.heap.size < (Lib.bytesWorld w5 5 st).heap.size := blk_lt HS6.out.1.2
        go_upto_region 7 with (fail)
        go_wp2_with fail
        rw [Lib.run_convert_string_bytes w5 9 22 5 st Tryd.underlying9 Tryd.underlying22 Tryd.underlying5]
        simp only [Result.andThen]
        rw [Oper.upon_value]
        obtain ⟨cap, hcap⟩ : ∃ k, k = grownCap w5 st.size 0 5 := ⟨_, rfl⟩
        obtain ⟨w6, hw6⟩ : ∃ w6, w6 = Lib.bytesWorld w5 5 st := ⟨_, rfl⟩
        have HR7 := Lib.hid HEND.out.2.2.1
        rw [← hcap, ← hw6] at HR7
        rw [← hw6] at b0 b1 b2 b3 b4 hlt6
        rw [← hcap, ← hw6]
        clear hcap hw6
        go_wp2_with (at_builtin; refine builtin_step rfl _ _ _ rfl _ _ _ rfl rfl HR7.out ?_)
        go_ret2
        exact ⟨HS7.out.1.1, .inl ⟨HQ.out.symm, A1, st.size + n, c1, rfl, HEND.out.2.2.2, HEND.out.2.1, HEND.out.1⟩⟩
end Go.Proofs.YthfgkkpibkkiaaaDoor
