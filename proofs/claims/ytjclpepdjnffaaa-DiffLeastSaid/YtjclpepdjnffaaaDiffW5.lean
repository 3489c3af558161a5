/- The walk of Diff. -/
import Derived.Test.YtjclpepdjnffaaaDiffW4
import Derived.Test.YtjclpepdjnffaaaDiffE
set_option linter.unusedVariables false
set_option linter.unusedSimpArgs false
namespace Go.Proofs.Ytjclpepdjnffaaa
open Go.RowKit Go.Proofs.YtjclpepdjnffaaaW.PrintWords Go.Proofs.YtjclpepdjnffaaaW.PrintLast

theorem keep_float {a b : List ByteArray} {na nb i k : Nat} (hok : ∀ i k, okF (prc na nb (DD a b) i k)) (hal : alikeB a b i k = true) (hna : a.length = na) (hnb : b.length = nb) :
    (FloatKind.f64.format.order (fv (prc na nb (DD a b) i k)) (fv (prc na nb (DD a b) (i + 1) (k + 1))) == some .eq) = keepB a b i k := by
  rw [show FloatKind.f64.format.order (fv (prc na nb (DD a b) i k)) (fv (prc na nb (DD a b) (i + 1) (k + 1))) = some (ocmp (prc na nb (DD a b) i k) (prc na nb (DD a b) (i + 1) (k + 1))) from fv_order (hok _ _) (hok _ _)]
  obtain ⟨h3, h2, _⟩ := of_decide_eq_true hal
  unfold keepB prc
  rw [hal, if_neg (by omega), if_neg (by omega), Bool.true_and]
  show (some (compare (DD a b i k) (DD a b (i + 1) (k + 1))) == some .eq) = _
  rw [Nat.compare_eq_ite_lt]
  by_cases e : DD a b i k = DD a b (i + 1) (k + 1)
  · rw [decide_eq_true e, e]
    simp
  · rw [decide_eq_false e]
    by_cases e1 : DD a b i k < DD a b (i + 1) (k + 1)
    · simp [e1]
    · have e2 : DD a b (i + 1) (k + 1) < DD a b i k := by omega
      simp [e1, e2]
theorem goes_float {a b : List ByteArray} {na nb i k : Nat} (hok : ∀ i k, okF (prc na nb (DD a b) i k)) (hna : a.length = na) (hnb : b.length = nb) :
    (FloatKind.f64.format.order (fv (prc na nb (DD a b) (i + 1) k)) (fv (prc na nb (DD a b) i (k + 1))) == some .lt || FloatKind.f64.format.order (fv (prc na nb (DD a b) (i + 1) k)) (fv (prc na nb (DD a b) i (k + 1))) == some .eq) = goesB a b i k := by
  rw [show FloatKind.f64.format.order (fv (prc na nb (DD a b) (i + 1) k)) (fv (prc na nb (DD a b) i (k + 1))) = some (ocmp (prc na nb (DD a b) (i + 1) k) (prc na nb (DD a b) i (k + 1))) from fv_order (hok _ _) (hok _ _)]
  unfold goesB
  rw [hna, hnb]
  rfl
theorem getD_last' (done : List (Hk ByteArray)) (x : Hk ByteArray) : (done ++ (some x).toList).getD done.length hk0 = x := by
  have := getD_last done x done.length
  rw [if_pos rfl] at this
  exact this
theorem R_addr {α : Type} {d : Kd α} {e : Nat} {w : World} {base : Nat} {ok : Nat → Prop} {v : Value} {xs : List α} (h : d.R e w base ok v xs) :
    ∃ A c, v = .slice A xs.length c ∧ xs.length ≤ c ∧ d.C w A xs.length xs ∧ ∀ ad, A = some ad → base ≤ ad.block := by
  obtain ⟨A, c, rfl, hc, hC⟩ := Kd.R_reads h
  obtain ⟨inner, ho⟩ := Kd.R_own h
  exact ⟨A, c, rfl, hc, hC, fun ad e => own_base ho ad.block (by subst e; rfl)⟩
theorem keep2 {wr w' w'' : World} {p q : Addr} {u v : Value} (h : Below wr.heap.size wr w' ∧ w'.cell? p = some u ∧ w'.cell? q = some v) (hB : Below w'.heap.size w' w'') : Below wr.heap.size wr w'' ∧ w''.cell? p = some u ∧ w''.cell? q = some v :=
  ⟨below_then h.1 h.1.size hB, pw_cell_below hB h.2.1, pw_cell_below hB h.2.2⟩
theorem infoS : (Try.prog.info? 9).map (fun i => (i.zero, i.size, i.bytes)) = some (some (.string ⟨#[]⟩), 1, 16) := by kernel_rfl
section
variable {w0 w : World} {base pb ob xb : Nat} {A : Option Addr} {na ca : Nat} {B : Option Addr} {nb cb : Nat} {vr : Value} {T : Nat → Nat → Nat} {blk : Nat → Nat} {done : List (Hk ByteArray)} {v : Value} {vo vn : Nat → Value}
theorem hunk_any (k : Nat) (cur : Option (Hk ByteArray)) (h : DSt w0 w base pb ob xb A na ca B nb cb vr T blk done cur v vo vn) (hl : done.length < 100000) :
    Calls Try.prog 22 #[.int .i64 (k : Int), .pointer (some ⟨xb, 0, none⟩), .pointer (some ⟨ob, 0, none⟩)] w fun e w' => ∃ g cap vo' vn', e = .returned (.pointer (some ⟨g, done.length * 3, none⟩)) ∧ DSt w0 w' base pb ob xb A na ca B nb cb vr T blk done (some (openK k cur)) (.slice (some ⟨g, 0, none⟩) (done.length + 1) cap) vo' vn' := by
  cases cur with
  | none => exact hunk_new k h hl
  | some x =>
    refine (hunk_old x k h hl).mono ?_
    rintro e w' ⟨g, cap, rfl, rfl, rfl⟩
    exact ⟨g, cap, vo, vn, rfl, h⟩
/-- Behind an append to the open hunk's Old, and the store. -/
theorem DSt.put_old {w1 : World} {g cap : Nat} {x : Hk ByteArray} {u : Value} {o' : List ByteArray} (h : DSt w0 w base pb ob xb A na ca B nb cb vr T blk done (some x) (.slice (some ⟨g, 0, none⟩) (done.length + 1) cap) vo vn)
    (hR : Kd.string.R 9 w1 base (fun _ => True) u o') (hB : Below base w0 w1) (hg : w.grownBy w1 (vo done.length).ownBlock) (hat : u.ownBlock = (vo done.length).ownBlock ∨ ∃ b, u.ownBlock = some b ∧ w.heap.size ≤ b) :
    DSt w0 (w1.setCell ⟨g, done.length * 3 + 1, none⟩ u) base pb ob xb A na ca B nb cb vr T blk done (some { x with old := o' }) (.slice (some ⟨g, 0, none⟩) (done.length + 1) cap) (fun i => if i = done.length then u else vo i) vn := by
  obtain ⟨ho, hx, hh, hp, hb, le1, le2⟩ := h
  have hl : (done ++ (some x).toList).length = done.length + 1 := by simp
  have hold := hh.old done.length (by omega)
  have hty : ∀ b, (vo done.length).ownBlock = some b → ∃ cs, w.heap[b]? = some (.cells cs 9 (0, 0)) := fun b hb => Kd.R_typed hold b hb
  have hother : ∀ {p : Nat} {cs : Array Value} {t : TypeId}, w.heap[p]? = some (.cells cs t (0, 0)) → t ≠ 9 → w1.heap[p]? = some (.cells cs t (0, 0)) := fun {p cs t} hc ht => (hg.block p (blk_lt hc) (fun e => by
    obtain ⟨cs', hc'⟩ := hty p e.symm
    exact ht (blk_one hc hc'))).trans hc
  have hrow := hh.rows
  rw [hl] at hrow
  obtain ⟨g1, c1, he1, _, hbg, _, cells1, hcells1⟩ := own_form hrow (by omega)
  have hgg : g1 = g := by injection he1 with he1; injection he1 with he1; injection he1 with he1; exact he1.symm
  subst hgg
  have hg1 := hother hcells1 (by decide)
  have gs : w1.grownBy (w1.setCell ⟨g1, done.length * 3 + 1, none⟩ u) (some g1) := gb_setCell (gb_refl _ _) (p := ⟨g1, done.length * 3 + 1, none⟩) (Or.inl rfl) _
  refine ⟨blk_far (hother ho (by decide)) (p := ⟨g1, done.length * 3 + 1, none⟩) (blk_ne ho hcells1 (by decide)) _, blk_far (hother hx (by decide)) (p := ⟨g1, done.length * 3 + 1, none⟩) (blk_ne hx hcells1 (by decide)) _, hh.put_old (by decide) hR hg hat, ?_, hB.setCell (p := ⟨g1, done.length * 3 + 1, none⟩) hbg _, le1, le2⟩
  exact (hp.grownV hg (fun b hb => by obtain ⟨cs, hc⟩ := hty b hb; exact ⟨cs, _, hc, by decide, by decide, by decide⟩)).grownT gs hg1 (by decide) (by decide) (by decide)
theorem DSt.put_new {w1 : World} {g cap : Nat} {x : Hk ByteArray} {u : Value} {o' : List ByteArray} (h : DSt w0 w base pb ob xb A na ca B nb cb vr T blk done (some x) (.slice (some ⟨g, 0, none⟩) (done.length + 1) cap) vo vn)
    (hR : Kd.string.R 9 w1 base (fun _ => True) u o') (hB : Below base w0 w1) (hg : w.grownBy w1 (vn done.length).ownBlock) (hat : u.ownBlock = (vn done.length).ownBlock ∨ ∃ b, u.ownBlock = some b ∧ w.heap.size ≤ b) :
    DSt w0 (w1.setCell ⟨g, done.length * 3 + 2, none⟩ u) base pb ob xb A na ca B nb cb vr T blk done (some { x with new := o' }) (.slice (some ⟨g, 0, none⟩) (done.length + 1) cap) vo (fun i => if i = done.length then u else vn i) := by
  obtain ⟨ho, hx, hh, hp, hb, le1, le2⟩ := h
  have hl : (done ++ (some x).toList).length = done.length + 1 := by simp
  have hold := hh.new done.length (by omega)
  have hty : ∀ b, (vn done.length).ownBlock = some b → ∃ cs, w.heap[b]? = some (.cells cs 9 (0, 0)) := fun b hb => Kd.R_typed hold b hb
  have hother : ∀ {p : Nat} {cs : Array Value} {t : TypeId}, w.heap[p]? = some (.cells cs t (0, 0)) → t ≠ 9 → w1.heap[p]? = some (.cells cs t (0, 0)) := fun {p cs t} hc ht => (hg.block p (blk_lt hc) (fun e => by
    obtain ⟨cs', hc'⟩ := hty p e.symm
    exact ht (blk_one hc hc'))).trans hc
  have hrow := hh.rows
  rw [hl] at hrow
  obtain ⟨g1, c1, he1, _, hbg, _, cells1, hcells1⟩ := own_form hrow (by omega)
  have hgg : g1 = g := by injection he1 with he1; injection he1 with he1; injection he1 with he1; exact he1.symm
  subst hgg
  have hg1 := hother hcells1 (by decide)
  have gs : w1.grownBy (w1.setCell ⟨g1, done.length * 3 + 2, none⟩ u) (some g1) := gb_setCell (gb_refl _ _) (p := ⟨g1, done.length * 3 + 2, none⟩) (Or.inl rfl) _
  refine ⟨blk_far (hother ho (by decide)) (p := ⟨g1, done.length * 3 + 2, none⟩) (blk_ne ho hcells1 (by decide)) _, blk_far (hother hx (by decide)) (p := ⟨g1, done.length * 3 + 2, none⟩) (blk_ne hx hcells1 (by decide)) _, hh.put_new (by decide) hR hg hat, ?_, hB.setCell (p := ⟨g1, done.length * 3 + 2, none⟩) hbg _, le1, le2⟩
  exact (hp.grownV hg (fun b hb => by obtain ⟨cs, hc⟩ := hty b hb; exact ⟨cs, _, hc, by decide, by decide, by decide⟩)).grownT gs hg1 (by decide) (by decide) (by decide)
/-- open = false. -/
theorem DSt.shut {cur : Option (Hk ByteArray)} (h : DSt w0 w base pb ob xb A na ca B nb cb vr T blk done cur v vo vn) :
    DSt w0 (w.setCell ⟨xb, 0, none⟩ (.bool false)) base pb ob xb A na ca B nb cb vr T blk (done ++ cur.toList) none v vo vn := by
  obtain ⟨ho, hx, hh, hp, hb, le1, le2⟩ := h
  have gs : w.grownBy (w.setCell ⟨xb, 0, none⟩ (.bool false)) (some xb) := gb_setCell (gb_refl _ _) (p := ⟨xb, 0, none⟩) (Or.inl rfl) _
  refine ⟨blk_far ho (p := ⟨xb, 0, none⟩) (blk_ne ho hx (by decide)) _, set1 hx _, ?_, hp.grownT gs hx (by decide) (by decide) (by decide), hb.setCell (p := ⟨xb, 0, none⟩) le2 _, le1, le2⟩
  rw [show done ++ cur.toList ++ (none : Option (Hk ByteArray)).toList = done ++ cur.toList by simp]
  exact hh.grownT gs hx (by decide) (by decide)
end

set_option maxRecDepth 100000 in
set_option maxHeartbeats 8000000 in
theorem diff_n (na nb : Nat) (w : World) (A : Option Addr) (ca : Nat) (B : Option Addr) (cb : Nat) (a b : List ByteArray) (hna : a.length = na) (hnb : b.length = nb) (ha : Kd.string.C w A na a) (hb : Kd.string.C w B nb b) (hn : na + nb ≤ 1200) :
    Calls Try.prog 12 #[.slice A na ca, .slice B nb cb] w fun e w' => ∃ v vo vn, e = .returned v ∧ HkAt 9 24 w' w.heap.size v (hunks a b) vo vn ∧ Below w.heap.size w w' := by
  have HA := Lib.hid ha
  have HB := Lib.hid hb
  have HNA := Lib.hid hna
  have HNB := Lib.hid hnb
  go_enter Try.func12, Try.ntmps12
  go_wp2_with fail
  refine (reckon_n na nb w A ca B cb a b hna hnb ha hb hn).mono ?_
  clear ha hb hna hnb
  rintro e w1 ⟨pb, vr, blk, rfl, hpr, hpb, hB⟩
  have HPR := Lib.hid hpr
  have HB1 := Lib.hid hB
  clear hpr hB
  go_wp2_with fail
  have hst : DSt w ((w1.alloc (.cells #[.slice none 0 0] 28)).alloc (.cells #[.bool false] 4)) w.heap.size pb w1.heap.size (w1.heap.size + 1) A na ca B nb cb vr (DD a b) blk [] none (.slice none 0 0) (fun _ => .slice none 0 0) (fun _ => .slice none 0 0) := by
    have hB2 : Below w1.heap.size w1 ((w1.alloc (.cells #[.slice none 0 0] 28)).alloc (.cells #[.bool false] 4)) := ((Below.refl _ _).alloc (Nat.le_refl _) _).alloc (by simp) _
    have hsz := HB1.out.size
    refine ⟨?_, ?_, ?_, HPR.out.below hB2, below_then HB1.out hsz hB2, hsz, by omega⟩
    · exact (heap_alloc_old (w1.alloc (.cells #[.slice none 0 0] 28)) _ (by simp)).trans (heap_alloc_new w1 _)
    · have := heap_alloc_new (w1.alloc (.cells #[.slice none 0 0] 28)) (.cells #[.bool false] 4)
      rw [show (w1.alloc (.cells #[.slice none 0 0] 28)).heap.size = w1.heap.size + 1 by simp] at this
      exact this
    · exact ⟨own_nil _ _ _ _, fun i hi => absurd hi (Nat.not_lt_zero i), fun i hi => absurd hi (Nat.not_lt_zero i), fun i j b hi => absurd hi (Nat.not_lt_zero i), fun i j b hi => absurd hi (Nat.not_lt_zero i), fun i j b hi => absurd hi (Nat.not_lt_zero i)⟩
  have HST := Lib.hid hst
  have HSZ1 := Lib.hid HB1.out.size
  clear hst HPR HB1
  generalize hobe : w1.heap.size = ob at *
  generalize hxbe : ob + 1 = xb at *
  clear hobe hxbe
  go_loopw [9, 10] (fun vi vk wr => ∃ (i k : Nat) (done : List (Hk ByteArray)) (cur : Option (Hk ByteArray)) (v : Value) (vo vn : Nat → Value), i ≤ na ∧ k ≤ nb ∧ vi = .int .i64 (i : Int) ∧ vk = .int .i64 (k : Int) ∧ DSt w wr w.heap.size pb ob xb A na ca B nb cb vr (DD a b) blk done cur v vo vn ∧ At6 a b i k done cur) (fun vi vk _ => (na - (intOf vi).toNat) + (nb - (intOf vk).toNat))
  case atStart => exact ⟨0, 0, [], none, _, _, _, by omega, by omega, rfl, rfl, HST.out, at_start a b⟩
  case round =>
    obtain ⟨i, k, done, cur, v, vo, vn, hi, hk, rfl, rfl, hst, hat⟩ := hrel
    clear HST
    have HST := Lib.hid hst
    have HAT := Lib.hid hat
    clear hst hat
    by_cases hend : i = na ∧ k = nb
    · obtain ⟨rfl, rfl⟩ := hend
      have d1 : decide ((i : Int) < (i : Int)) = false := decide_eq_false (by omega)
      have d2 : decide ((k : Int) < (k : Int)) = false := decide_eq_false (by omega)
      obtain ⟨c1, f1, l1⟩ := cell1 HST.out.out
      go_wp2_with fail
      go_ret
      refine ⟨v, vo, vn, rfl, ?_, HST.out.bel⟩
      have := HAT.out
      rw [← HNA.out, ← HNB.out] at this
      rw [← at_end this]
      exact HST.out.hks
    · have hor : i < na ∨ k < nb := by omega
      have hbnd := at_bounds HAT.out (by rw [HNA.out, HNB.out]; exact hn)
      have HBND := Lib.hid hbnd
      have HOR := Lib.hid hor
      clear hbnd hor hend
      have hokp : ∀ i k, okF (prc na nb (DD a b) i k) := by
        intro i k
        have := okF_prc a b (by rw [HNA.out, HNB.out]; exact hn) i k
        rwa [HNA.out, HNB.out] at this
      have HOKP := Lib.hid hokp
      clear hokp
      by_cases hin : i < na
      · have d1 : decide ((i : Int) < (na : Int)) = true := decide_eq_true (by omega)
        go_wp2_with fail
        refine (alike_x na nb _ pb A ca B cb _ a b HNA.out HNB.out _ _ i k (by omega) (by omega) HST.out.prs.head (Kd.C_below HA.out HST.out.bel) (Kd.C_below HB.out HST.out.bel)).mono ?_
        rintro e w2 ⟨rfl, hB2⟩
        have HST2 := Lib.hid (HST.out.below hB2)
        clear hB2 HST
        by_cases hal : alikeB a b i k = true
        · go_wp2_with fail
          refine (at_x _ pb w.heap.size A na ca B nb cb _ _ blk _ _ i k (by omega) (by omega) HST2.out.prs).mono ?_
          rintro e w3 ⟨rfl, hB3⟩
          have HST3 := Lib.hid (HST2.out.below hB3)
          clear hB3 HST2
          obtain ⟨F1, hF1⟩ : ∃ F, F = fv (prc na nb (DD a b) i k) := ⟨_, rfl⟩
          rw [← hF1]
          have HF1 := Lib.hid hF1
          clear hF1
          go_wp2_with fail
          refine (at_x _ pb w.heap.size A na ca B nb cb _ _ blk _ _ (i + 1) (k + 1) (by omega) (by omega) HST3.out.prs).mono ?_
          rintro e w4 ⟨rfl, hB4⟩
          have HST4 := Lib.hid (HST3.out.below hB4)
          clear hB4 HST3
          have hfe := keep_float HOKP.out hal HNA.out HNB.out
          obtain ⟨F2, hF2⟩ : ∃ F, F = fv (prc na nb (DD a b) (i + 1) (k + 1)) := ⟨_, rfl⟩
          rw [← HF1.out, ← hF2] at hfe
          rw [← hF2]
          clear hF2
          by_cases hkeep : keepB a b i k = true
          · rw [hkeep] at hfe
            obtain ⟨c1, f1, l1⟩ := cell1 HST4.out.opn
            have hkn : k < nb := by have := (of_decide_eq_true hal).2.1; rw [HNB.out] at this; exact this
            clear hal
            go_wp2_with fail
            refine ⟨⟨i + 1, k + 1, done ++ cur.toList, none, v, vo, vn, by omega, by omega, by go_num, by go_num, HST4.out.shut, at_keep HAT.out hkeep⟩, by simp [intOf]; omega⟩
          · have hkeep : keepB a b i k = false := by simpa using hkeep
            rw [hkeep] at hfe
            clear hal
            go_wp2_with fail
            refine (at_x _ pb w.heap.size A na ca B nb cb _ _ blk _ _ (i + 1) k (by omega) (by omega) HST4.out.prs).mono ?_
            rintro e wa ⟨rfl, hBa⟩
            have HSTa := Lib.hid (HST4.out.below hBa)
            clear hBa HST4
            obtain ⟨F3, hF3⟩ : ∃ F, F = fv (prc na nb (DD a b) (i + 1) k) := ⟨_, rfl⟩
            rw [← hF3]
            have HF3 := Lib.hid hF3
            clear hF3
            go_wp2_with fail
            refine (at_x _ pb w.heap.size A na ca B nb cb _ _ blk _ _ i (k + 1) (by omega) (by omega) HSTa.out.prs).mono ?_
            rintro e wb ⟨rfl, hBb⟩
            have HSTb := Lib.hid (HSTa.out.below hBb)
            clear hBb HSTa
            have hge := goes_float (i := i) (k := k) HOKP.out HNA.out HNB.out
            obtain ⟨F4, hF4⟩ : ∃ F, F = fv (prc na nb (DD a b) i (k + 1)) := ⟨_, rfl⟩
            rw [← HF3.out, ← hF4] at hge
            rw [← hF4]
            clear hF4
            cases hgo : goesB a b i k with
            | true =>
              obtain ⟨h1, hat5⟩ := at_del HAT.out (by rw [HNA.out]; exact hi) (by rw [HNB.out]; exact hk) (by rw [HNA.out, HNB.out]; exact HOR.out) hkeep hgo
              rw [takeOut_open] at hat5
              have h1n : i < na := by rw [← HNA.out]; exact h1
              rw [hgo] at hge
              clear hgo hkeep
              have hbn := HBND.out
              have hl5 : done.length < 100000 := by omega
              have hcost := open_cost k cur
              have hfl : (openK k cur).old.length ≤ 1200 := by omega
              have HBN := Lib.hid (And.intro hl5 hfl)
              clear hbn hcost
              go_wp2_with fail
              refine (hunk_any k cur HSTb.out hl5).mono ?_
              rintro e w6 ⟨g, cap, vo', vn', rfl, hst6⟩
              clear hl5 hfl
              have HST6 := Lib.hid hst6
              obtain ⟨q0, q1, q2⟩ := hst6.hks.get g cap (by simp) (i := done.length) (by simp)
              have hRo := hst6.hks.old done.length (by simp)
              rw [getD_last' done (openK k cur)] at hRo
              obtain ⟨Ao, co, hvo, _, _, _⟩ := R_addr hRo
              have HVO := Lib.hid hvo
              have HRO := Lib.hid hRo
              have hrw := hst6.hks.rows
              rw [show (done ++ (some (openK k cur)).toList).length = done.length + 1 by simp] at hrw
              obtain ⟨g1, c1, he1, hc1, hbg, hgl, cells6, hcells6⟩ := own_form hrw (by omega)
              have hgg : g1 = g := by injection he1 with he1; injection he1 with he1; injection he1 with he1; exact he1.symm
              subst hgg
              clear he1 hrw hc1 hRo q0
              obtain ⟨ad, rfl, ca6⟩ := Kd.at_string (Kd.C_below HA.out hst6.bel) (i : Int) (by omega) (by omega)
              rw [rdOf_nat _ _ _ h1, Int.toNat_natCast] at ca6
              obtain ⟨x, hx⟩ : ∃ x, x = a[i] := ⟨_, rfl⟩
              rw [← hx] at ca6 hat5
              have HAT6 := Lib.hid hat5
              have HC6 := Lib.hid hcells6
              have HQ := Lib.hid q1
              have hqq := q1
              rw [hvo] at hqq
              obtain ⟨gn, hgn⟩ : ∃ gn, gn = done.length * 3 := ⟨_, rfl⟩
              rw [← hgn] at hqq ⊢
              have HGN := Lib.hid hgn
              clear hst6 q1 q2 hx hcells6 hat5 hvo hgn
              go_upto_region 16 with (fail)
              have hS := And.intro (Below.refl w6.heap.size w6) (And.intro hqq ca6)
              clear hqq ca6
              refine start_ (S := fun w' => Below w6.heap.size w6 w' ∧ w'.cell? ⟨g1, gn + 1, none⟩ = some (.slice Ao (openK k cur).old.length co) ∧ w'.cell? (ad.add i) = some (.string x)) (ds := [10, 11, 12, 13]) (n := 14) #[false, false, false, false, false, false, false, false, false, false, false, false, false, false] rfl rfl rfl ?hS0 (fun hHeld => ?hrun)
              case hS0 => exact keep2 hS ((Below.refl _ _).drew)
              case hrun =>
                refine pure_ (i := 0) (N := some 82) (v := ?_) (a' := ?_) #[true, false, false, false, false, false, false, false, false, false, false, false, false, false] rfl rfl (by kernel_rfl) (fun _ _ _ h => h) (Or.inl ⟨by rfl, ?_⟩) ?_ ?_
                rotate_left
                · intro w'
                  go_simp
                  first | done | with_reducible rfl
                rotate_left
                · simp only [Act.put, List.setIfInBounds_toArray, List.set_cons_zero, List.set_cons_succ, i64_w, i32_w]
                  rfl
                refine pure_ (i := 1) (N := some 83) (v := ?_) (a' := ?_) #[true, true, false, false, false, false, false, false, false, false, false, false, false, false] rfl rfl (by kernel_rfl) (fun _ _ _ h => h) (Or.inl ⟨by rfl, ?_⟩) ?_ ?_
                rotate_left
                · intro w'
                  go_simp
                  first | done | with_reducible rfl
                rotate_left
                · simp only [Act.put, List.setIfInBounds_toArray, List.set_cons_zero, List.set_cons_succ, i64_w, i32_w]
                  rfl
                refine pure_ (i := 2) (N := some 84) (v := ?_) (a' := ?_) #[true, true, true, false, false, false, false, false, false, false, false, false, false, false] rfl rfl (by kernel_rfl) (fun _ _ _ h => h) (Or.inl ⟨by rfl, ?_⟩) ?_ ?_
                rotate_left
                · intro w'
                  go_simp
                  first | done | with_reducible rfl
                rotate_left
                · simp only [Act.put, List.setIfInBounds_toArray, List.set_cons_zero, List.set_cons_succ, i64_w, i32_w]
                  rfl
                refine pure_ (i := 3) (N := some 85) (v := ?_) (a' := ?_) #[true, true, true, true, false, false, false, false, false, false, false, false, false, false] rfl rfl (by kernel_rfl) (fun _ _ _ h => h) (Or.inl ⟨by rfl, ?_⟩) ?_ ?_
                rotate_left
                · intro w'
                  go_simp
                  first | done | with_reducible rfl
                rotate_left
                · simp only [Act.put, List.setIfInBounds_toArray, List.set_cons_zero, List.set_cons_succ, i64_w, i32_w]
                  rfl
                refine take_ (i := 4) (N := some 86) (v := ?_) (a' := ?_) #[true, true, true, true, true, false, false, false, false, false, false, false, false, false] rfl rfl (by kernel_rfl) (fun _ _ _ h => h) (Or.inl ⟨by rfl, ?_⟩) hHeld ?_ ?_
                rotate_left
                · rintro w' ⟨hb, s0, s1⟩
                  go_simp
                  first | done | with_reducible rfl
                rotate_left
                · simp only [Act.put, List.setIfInBounds_toArray, List.set_cons_zero, List.set_cons_succ, i64_w, i32_w]
                  rfl
                refine pure_ (i := 5) (N := some 87) (v := ?_) (a' := ?_) #[true, true, true, true, true, true, false, false, false, false, false, false, false, false] rfl rfl (by kernel_rfl) (fun _ _ _ h => h) (Or.inl ⟨by rfl, ?_⟩) ?_ ?_
                rotate_left
                · intro w'
                  go_simp
                  first | done | with_reducible rfl
                rotate_left
                · simp only [Act.put, List.setIfInBounds_toArray, List.set_cons_zero, List.set_cons_succ, i64_w, i32_w]
                  rfl
                refine pure_ (i := 6) (N := some 88) (v := ?_) (a' := ?_) #[true, true, true, true, true, true, true, false, false, false, false, false, false, false] rfl rfl (by kernel_rfl) (fun _ _ _ h => h) (Or.inl ⟨by rfl, ?_⟩) ?_ ?_
                rotate_left
                · intro w'
                  go_simp
                  first | done | with_reducible rfl
                rotate_left
                · simp only [Act.put, List.setIfInBounds_toArray, List.set_cons_zero, List.set_cons_succ, i64_w, i32_w]
                  rfl
                refine pure_ (i := 7) (N := some 89) (v := ?_) (a' := ?_) #[true, true, true, true, true, true, true, true, false, false, false, false, false, false] rfl rfl (by kernel_rfl) (fun _ _ _ h => h) (Or.inl ⟨by rfl, ?_⟩) ?_ ?_
                rotate_left
                · intro w'
                  go_simp
                  first | done | with_reducible rfl
                rotate_left
                · simp only [Act.put, List.setIfInBounds_toArray, List.set_cons_zero, List.set_cons_succ, i64_w, i32_w]
                  rfl
                refine take_ (i := 8) (N := some 90) (v := ?_) (a' := ?_) #[true, true, true, true, true, true, true, true, true, false, false, false, false, false] rfl rfl (by kernel_rfl) (fun _ _ _ h => h) (Or.inl ⟨by rfl, ?_⟩) hHeld ?_ ?_
                rotate_left
                · rintro w' ⟨hb, s0, s1⟩
                  go_simp
                  first | done | with_reducible rfl
                rotate_left
                · simp only [Act.put, List.setIfInBounds_toArray, List.set_cons_zero, List.set_cons_succ, i64_w, i32_w]
                  rfl
                refine one_ (i := 9) (N := some 91) #[true, true, true, true, true, true, true, true, true, true, false, false, false, false] rfl rfl (by kernel_rfl) (by decide) (fun K hK => ?_)
                refine value_ (by rfl) rfl (by go_simp; first | rfl | exact ⟨rfl, rfl⟩) ?_
                refine hK.out _ _ (keep2 hHeld (below_alloc (Below.refl _ _) _)) (fun hHeld1 => ?_)
                clear hK K
                refine norm_ (a' := ?_) ?_ ?_
                rotate_left
                · show Act.put _ (some 91) _ = _
                  simp only [Act.put, List.setIfInBounds_toArray, List.set_cons_zero, List.set_cons_succ, i64_w, i32_w]
                  rfl
                refine tail_list 10 (t := [10, 11, 12, 13]) (fuel := 0) rfl rfl rfl (by kernel_rfl) (by decide) ?_
                clear hS hHeld hHeld1
                obtain ⟨W0, hW0⟩ : ∃ W0, W0 = w6.drew := ⟨_, rfl⟩
                have hW1 : (w6.alloc (.cells #[.string x] 9)).drew = W0.alloc (.cells #[.string x] 9) := by rw [hW0]; rfl
                rw [hW1]
                have HSZ0 := Lib.hid (show W0.heap.size = w6.heap.size by rw [hW0]; rfl)
                have HST7 := Lib.hid (show DSt w W0 w.heap.size pb ob xb _ na ca _ nb cb vr (DD a b) blk done (some (openK k cur)) (.slice (some ⟨g1, 0, none⟩) (done.length + 1) cap) vo' vn' by rw [hW0]; exact HST6.out.below (Below.refl _ _).drew)
                have HR7 := Lib.hid (show Kd.string.R 9 W0 w.heap.size (fun _ => True) (vo' done.length) (openK k cur).old by rw [hW0]; exact Kd.R_drew HRO.out)
                have HC7 := Lib.hid (show W0.heap[g1]? = some (.cells cells6 24 (0, 0)) by rw [hW0]; exact HC6.out)
                clear hW1 hW0 HST6 HRO
                show wpList _ _ _ (_ :: _) _ _
                refine (Kd.R_append Kd.string (w0 := w) (W := W0) w.heap.size rfl _ _ 22 9 (.string ⟨#[]⟩) 16 rfl Try.underlying22 infoS rfl (by decide) (by decide) (vo' done.length) (openK k cur).old x [.string x] (fun _ => True) (fun _ => False) (by rw [HVO.out]; rfl) (by rw [HSZ0.out]; rfl) rfl (fun _ h => h.elim) (fun _ _ => trivial) HR7.out HST7.out.bel HST7.out.bel.size (by have := HBN.out.2; omega) ?_)
                intro v1 w7 hR7 hB7 hg7 hat7
                have hst7 := HST7.out.put_old hR7 hB7 hg7 hat7
                obtain ⟨Av, cv, rfl, _, _, _⟩ := R_addr hR7
                have el : ((openK k cur).old ++ [x]).length = (openK k cur).old.length + 1 := by simp
                rw [el] at hst7 hR7 ⊢
                clear el
                have hcells7 : w7.heap[g1]? = some (.cells cells6 24 (0, 0)) := (hg7.block g1 (blk_lt HC7.out) (Kd.R_ne HR7.out HC7.out (by decide))).trans HC7.out
                have c7 : w7.cell? ⟨g1, gn + 1, none⟩ = some (vo' done.length) := by rw [HGN.out]; exact (blk_cell hcells7 _).trans ((blk_cell HC6.out _).symm.trans HQ.out)
                have f7 : w7.frozen? ⟨g1, gn + 1, none⟩ = false := blk_frozen hcells7 _
                have l7 := blk_lt hcells7
                rw [← HGN.out] at hst7
                have HST8 := Lib.hid hst7
                clear hst7 hR7 hB7 hg7 hat7 hcells7 HST7 HR7 HC7 HQ HC6
                go_wp2_with fail
                exact ⟨⟨i + 1, k, done, some _, _, _, _, by omega, by omega, by go_num, by go_num, HST8.out, HAT6.out⟩, by simp [intOf]; omega⟩
            | false =>
              obtain ⟨h2, hat5⟩ := at_ins HAT.out (by rw [HNA.out]; exact hi) (by rw [HNB.out]; exact hk) (by rw [HNA.out, HNB.out]; exact HOR.out) hkeep hgo
              rw [putIn_open] at hat5
              have h2n : k < nb := by rw [← HNB.out]; exact h2
              rw [hgo] at hge
              clear hgo hkeep
              have hbn := HBND.out
              have hl5 : done.length < 100000 := by omega
              have hcost := open_cost k cur
              have hfl : (openK k cur).new.length ≤ 1200 := by omega
              have HBN := Lib.hid (And.intro hl5 hfl)
              clear hbn hcost
              go_wp2_with fail
              refine (hunk_any k cur HSTb.out hl5).mono ?_
              rintro e w6 ⟨g, cap, vo', vn', rfl, hst6⟩
              clear hl5 hfl
              have HST6 := Lib.hid hst6
              obtain ⟨q0, q1, q2⟩ := hst6.hks.get g cap (by simp) (i := done.length) (by simp)
              have hRo := hst6.hks.new done.length (by simp)
              rw [getD_last' done (openK k cur)] at hRo
              obtain ⟨Ao, co, hvo, _, _, _⟩ := R_addr hRo
              have HVO := Lib.hid hvo
              have HRO := Lib.hid hRo
              have hrw := hst6.hks.rows
              rw [show (done ++ (some (openK k cur)).toList).length = done.length + 1 by simp] at hrw
              obtain ⟨g1, c1, he1, hc1, hbg, hgl, cells6, hcells6⟩ := own_form hrw (by omega)
              have hgg : g1 = g := by injection he1 with he1; injection he1 with he1; injection he1 with he1; exact he1.symm
              subst hgg
              clear he1 hrw hc1 hRo q0
              obtain ⟨ad, rfl, ca6⟩ := Kd.at_string (Kd.C_below HB.out hst6.bel) (k : Int) (by omega) (by omega)
              rw [rdOf_nat _ _ _ h2, Int.toNat_natCast] at ca6
              obtain ⟨x, hx⟩ : ∃ x, x = b[k] := ⟨_, rfl⟩
              rw [← hx] at ca6 hat5
              have HAT6 := Lib.hid hat5
              have HC6 := Lib.hid hcells6
              have HQ := Lib.hid q2
              have hqq := q2
              rw [hvo] at hqq
              obtain ⟨gn, hgn⟩ : ∃ gn, gn = done.length * 3 := ⟨_, rfl⟩
              rw [← hgn] at hqq ⊢
              have HGN := Lib.hid hgn
              clear hst6 q1 q2 hx hcells6 hat5 hvo hgn
              go_upto_region 8 with (fail)
              have hS := And.intro (Below.refl w6.heap.size w6) (And.intro hqq ca6)
              clear hqq ca6
              refine start_ (S := fun w' => Below w6.heap.size w6 w' ∧ w'.cell? ⟨g1, gn + 2, none⟩ = some (.slice Ao (openK k cur).new.length co) ∧ w'.cell? (ad.add k) = some (.string x)) (ds := [10, 11, 12, 13]) (n := 14) #[false, false, false, false, false, false, false, false, false, false, false, false, false, false] rfl rfl rfl ?hS0 (fun hHeld => ?hrun)
              case hS0 => exact keep2 hS ((Below.refl _ _).drew)
              case hrun =>
                refine pure_ (i := 0) (N := some 30) (v := ?_) (a' := ?_) #[true, false, false, false, false, false, false, false, false, false, false, false, false, false] rfl rfl (by kernel_rfl) (fun _ _ _ h => h) (Or.inl ⟨by rfl, ?_⟩) ?_ ?_
                rotate_left
                · intro w'
                  go_simp
                  first | done | with_reducible rfl
                rotate_left
                · simp only [Act.put, List.setIfInBounds_toArray, List.set_cons_zero, List.set_cons_succ, i64_w, i32_w]
                  rfl
                refine pure_ (i := 1) (N := some 31) (v := ?_) (a' := ?_) #[true, true, false, false, false, false, false, false, false, false, false, false, false, false] rfl rfl (by kernel_rfl) (fun _ _ _ h => h) (Or.inl ⟨by rfl, ?_⟩) ?_ ?_
                rotate_left
                · intro w'
                  go_simp
                  first | done | with_reducible rfl
                rotate_left
                · simp only [Act.put, List.setIfInBounds_toArray, List.set_cons_zero, List.set_cons_succ, i64_w, i32_w]
                  rfl
                refine pure_ (i := 2) (N := some 32) (v := ?_) (a' := ?_) #[true, true, true, false, false, false, false, false, false, false, false, false, false, false] rfl rfl (by kernel_rfl) (fun _ _ _ h => h) (Or.inl ⟨by rfl, ?_⟩) ?_ ?_
                rotate_left
                · intro w'
                  go_simp
                  first | done | with_reducible rfl
                rotate_left
                · simp only [Act.put, List.setIfInBounds_toArray, List.set_cons_zero, List.set_cons_succ, i64_w, i32_w]
                  rfl
                refine pure_ (i := 3) (N := some 33) (v := ?_) (a' := ?_) #[true, true, true, true, false, false, false, false, false, false, false, false, false, false] rfl rfl (by kernel_rfl) (fun _ _ _ h => h) (Or.inl ⟨by rfl, ?_⟩) ?_ ?_
                rotate_left
                · intro w'
                  go_simp
                  first | done | with_reducible rfl
                rotate_left
                · simp only [Act.put, List.setIfInBounds_toArray, List.set_cons_zero, List.set_cons_succ, i64_w, i32_w]
                  rfl
                refine take_ (i := 4) (N := some 34) (v := ?_) (a' := ?_) #[true, true, true, true, true, false, false, false, false, false, false, false, false, false] rfl rfl (by kernel_rfl) (fun _ _ _ h => h) (Or.inl ⟨by rfl, ?_⟩) hHeld ?_ ?_
                rotate_left
                · rintro w' ⟨hb, s0, s1⟩
                  go_simp
                  first | done | with_reducible rfl
                rotate_left
                · simp only [Act.put, List.setIfInBounds_toArray, List.set_cons_zero, List.set_cons_succ, i64_w, i32_w]
                  rfl
                refine pure_ (i := 5) (N := some 35) (v := ?_) (a' := ?_) #[true, true, true, true, true, true, false, false, false, false, false, false, false, false] rfl rfl (by kernel_rfl) (fun _ _ _ h => h) (Or.inl ⟨by rfl, ?_⟩) ?_ ?_
                rotate_left
                · intro w'
                  go_simp
                  first | done | with_reducible rfl
                rotate_left
                · simp only [Act.put, List.setIfInBounds_toArray, List.set_cons_zero, List.set_cons_succ, i64_w, i32_w]
                  rfl
                refine pure_ (i := 6) (N := some 36) (v := ?_) (a' := ?_) #[true, true, true, true, true, true, true, false, false, false, false, false, false, false] rfl rfl (by kernel_rfl) (fun _ _ _ h => h) (Or.inl ⟨by rfl, ?_⟩) ?_ ?_
                rotate_left
                · intro w'
                  go_simp
                  first | done | with_reducible rfl
                rotate_left
                · simp only [Act.put, List.setIfInBounds_toArray, List.set_cons_zero, List.set_cons_succ, i64_w, i32_w]
                  rfl
                refine pure_ (i := 7) (N := some 37) (v := ?_) (a' := ?_) #[true, true, true, true, true, true, true, true, false, false, false, false, false, false] rfl rfl (by kernel_rfl) (fun _ _ _ h => h) (Or.inl ⟨by rfl, ?_⟩) ?_ ?_
                rotate_left
                · intro w'
                  go_simp
                  first | done | with_reducible rfl
                rotate_left
                · simp only [Act.put, List.setIfInBounds_toArray, List.set_cons_zero, List.set_cons_succ, i64_w, i32_w]
                  rfl
                refine take_ (i := 8) (N := some 38) (v := ?_) (a' := ?_) #[true, true, true, true, true, true, true, true, true, false, false, false, false, false] rfl rfl (by kernel_rfl) (fun _ _ _ h => h) (Or.inl ⟨by rfl, ?_⟩) hHeld ?_ ?_
                rotate_left
                · rintro w' ⟨hb, s0, s1⟩
                  go_simp
                  first | done | with_reducible rfl
                rotate_left
                · simp only [Act.put, List.setIfInBounds_toArray, List.set_cons_zero, List.set_cons_succ, i64_w, i32_w]
                  rfl
                refine one_ (i := 9) (N := some 39) #[true, true, true, true, true, true, true, true, true, true, false, false, false, false] rfl rfl (by kernel_rfl) (by decide) (fun K hK => ?_)
                refine value_ (by rfl) rfl (by go_simp; first | rfl | exact ⟨rfl, rfl⟩) ?_
                refine hK.out _ _ (keep2 hHeld (below_alloc (Below.refl _ _) _)) (fun hHeld1 => ?_)
                clear hK K
                refine norm_ (a' := ?_) ?_ ?_
                rotate_left
                · show Act.put _ (some 39) _ = _
                  simp only [Act.put, List.setIfInBounds_toArray, List.set_cons_zero, List.set_cons_succ, i64_w, i32_w]
                  rfl
                refine tail_list 10 (t := [10, 11, 12, 13]) (fuel := 0) rfl rfl rfl (by kernel_rfl) (by decide) ?_
                clear hS hHeld hHeld1
                obtain ⟨W0, hW0⟩ : ∃ W0, W0 = w6.drew := ⟨_, rfl⟩
                have hW1 : (w6.alloc (.cells #[.string x] 9)).drew = W0.alloc (.cells #[.string x] 9) := by rw [hW0]; rfl
                rw [hW1]
                have HSZ0 := Lib.hid (show W0.heap.size = w6.heap.size by rw [hW0]; rfl)
                have HST7 := Lib.hid (show DSt w W0 w.heap.size pb ob xb _ na ca _ nb cb vr (DD a b) blk done (some (openK k cur)) (.slice (some ⟨g1, 0, none⟩) (done.length + 1) cap) vo' vn' by rw [hW0]; exact HST6.out.below (Below.refl _ _).drew)
                have HR7 := Lib.hid (show Kd.string.R 9 W0 w.heap.size (fun _ => True) (vn' done.length) (openK k cur).new by rw [hW0]; exact Kd.R_drew HRO.out)
                have HC7 := Lib.hid (show W0.heap[g1]? = some (.cells cells6 24 (0, 0)) by rw [hW0]; exact HC6.out)
                clear hW1 hW0 HST6 HRO
                show wpList _ _ _ (_ :: _) _ _
                refine (Kd.R_append Kd.string (w0 := w) (W := W0) w.heap.size rfl _ _ 22 9 (.string ⟨#[]⟩) 16 rfl Try.underlying22 infoS rfl (by decide) (by decide) (vn' done.length) (openK k cur).new x [.string x] (fun _ => True) (fun _ => False) (by rw [HVO.out]; rfl) (by rw [HSZ0.out]; rfl) rfl (fun _ h => h.elim) (fun _ _ => trivial) HR7.out HST7.out.bel HST7.out.bel.size (by have := HBN.out.2; omega) ?_)
                intro v1 w7 hR7 hB7 hg7 hat7
                have hst7 := HST7.out.put_new hR7 hB7 hg7 hat7
                obtain ⟨Av, cv, rfl, _, _, _⟩ := R_addr hR7
                have el : ((openK k cur).new ++ [x]).length = (openK k cur).new.length + 1 := by simp
                rw [el] at hst7 hR7 ⊢
                clear el
                have hcells7 : w7.heap[g1]? = some (.cells cells6 24 (0, 0)) := (hg7.block g1 (blk_lt HC7.out) (Kd.R_ne HR7.out HC7.out (by decide))).trans HC7.out
                have c7 : w7.cell? ⟨g1, gn + 2, none⟩ = some (vn' done.length) := by rw [HGN.out]; exact (blk_cell hcells7 _).trans ((blk_cell HC6.out _).symm.trans HQ.out)
                have f7 : w7.frozen? ⟨g1, gn + 2, none⟩ = false := blk_frozen hcells7 _
                have l7 := blk_lt hcells7
                rw [← HGN.out] at hst7
                have HST8 := Lib.hid hst7
                clear hst7 hR7 hB7 hg7 hat7 hcells7 HST7 HR7 HC7 HQ HC6
                go_wp2_with fail
                exact ⟨⟨i, k + 1, done, some _, _, _, _, by omega, by omega, by go_num, by go_num, HST8.out, HAT6.out⟩, by simp [intOf]; omega⟩
        · have hal : alikeB a b i k = false := by simpa using hal
          have hkeep : keepB a b i k = false := by unfold keepB; rw [hal]; rfl
          go_wp2_with fail
          refine (at_x _ pb w.heap.size A na ca B nb cb _ _ blk _ _ (i + 1) k (by omega) (by omega) HST2.out.prs).mono ?_
          rintro e wa ⟨rfl, hBa⟩
          have HSTa := Lib.hid (HST2.out.below hBa)
          clear hBa HST2
          obtain ⟨F3, hF3⟩ : ∃ F, F = fv (prc na nb (DD a b) (i + 1) k) := ⟨_, rfl⟩
          rw [← hF3]
          have HF3 := Lib.hid hF3
          clear hF3
          go_wp2_with fail
          refine (at_x _ pb w.heap.size A na ca B nb cb _ _ blk _ _ i (k + 1) (by omega) (by omega) HSTa.out.prs).mono ?_
          rintro e wb ⟨rfl, hBb⟩
          have HSTb := Lib.hid (HSTa.out.below hBb)
          clear hBb HSTa
          have hge := goes_float (i := i) (k := k) HOKP.out HNA.out HNB.out
          obtain ⟨F4, hF4⟩ : ∃ F, F = fv (prc na nb (DD a b) i (k + 1)) := ⟨_, rfl⟩
          rw [← HF3.out, ← hF4] at hge
          rw [← hF4]
          clear hF4
          cases hgo : goesB a b i k with
          | true =>
            obtain ⟨h1, hat5⟩ := at_del HAT.out (by rw [HNA.out]; exact hi) (by rw [HNB.out]; exact hk) (by rw [HNA.out, HNB.out]; exact HOR.out) hkeep hgo
            rw [takeOut_open] at hat5
            have h1n : i < na := by rw [← HNA.out]; exact h1
            rw [hgo] at hge
            clear hgo hkeep
            have hbn := HBND.out
            have hl5 : done.length < 100000 := by omega
            have hcost := open_cost k cur
            have hfl : (openK k cur).old.length ≤ 1200 := by omega
            have HBN := Lib.hid (And.intro hl5 hfl)
            clear hbn hcost
            go_wp2_with fail
            refine (hunk_any k cur HSTb.out hl5).mono ?_
            rintro e w6 ⟨g, cap, vo', vn', rfl, hst6⟩
            clear hl5 hfl
            have HST6 := Lib.hid hst6
            obtain ⟨q0, q1, q2⟩ := hst6.hks.get g cap (by simp) (i := done.length) (by simp)
            have hRo := hst6.hks.old done.length (by simp)
            rw [getD_last' done (openK k cur)] at hRo
            obtain ⟨Ao, co, hvo, _, _, _⟩ := R_addr hRo
            have HVO := Lib.hid hvo
            have HRO := Lib.hid hRo
            have hrw := hst6.hks.rows
            rw [show (done ++ (some (openK k cur)).toList).length = done.length + 1 by simp] at hrw
            obtain ⟨g1, c1, he1, hc1, hbg, hgl, cells6, hcells6⟩ := own_form hrw (by omega)
            have hgg : g1 = g := by injection he1 with he1; injection he1 with he1; injection he1 with he1; exact he1.symm
            subst hgg
            clear he1 hrw hc1 hRo q0
            obtain ⟨ad, rfl, ca6⟩ := Kd.at_string (Kd.C_below HA.out hst6.bel) (i : Int) (by omega) (by omega)
            rw [rdOf_nat _ _ _ h1, Int.toNat_natCast] at ca6
            obtain ⟨x, hx⟩ : ∃ x, x = a[i] := ⟨_, rfl⟩
            rw [← hx] at ca6 hat5
            have HAT6 := Lib.hid hat5
            have HC6 := Lib.hid hcells6
            have HQ := Lib.hid q1
            have hqq := q1
            rw [hvo] at hqq
            obtain ⟨gn, hgn⟩ : ∃ gn, gn = done.length * 3 := ⟨_, rfl⟩
            rw [← hgn] at hqq ⊢
            have HGN := Lib.hid hgn
            clear hst6 q1 q2 hx hcells6 hat5 hvo hgn
            go_upto_region 16 with (fail)
            have hS := And.intro (Below.refl w6.heap.size w6) (And.intro hqq ca6)
            clear hqq ca6
            refine start_ (S := fun w' => Below w6.heap.size w6 w' ∧ w'.cell? ⟨g1, gn + 1, none⟩ = some (.slice Ao (openK k cur).old.length co) ∧ w'.cell? (ad.add i) = some (.string x)) (ds := [10, 11, 12, 13]) (n := 14) #[false, false, false, false, false, false, false, false, false, false, false, false, false, false] rfl rfl rfl ?hS0 (fun hHeld => ?hrun)
            case hS0 => exact keep2 hS ((Below.refl _ _).drew)
            case hrun =>
              refine pure_ (i := 0) (N := some 82) (v := ?_) (a' := ?_) #[true, false, false, false, false, false, false, false, false, false, false, false, false, false] rfl rfl (by kernel_rfl) (fun _ _ _ h => h) (Or.inl ⟨by rfl, ?_⟩) ?_ ?_
              rotate_left
              · intro w'
                go_simp
                first | done | with_reducible rfl
              rotate_left
              · simp only [Act.put, List.setIfInBounds_toArray, List.set_cons_zero, List.set_cons_succ, i64_w, i32_w]
                rfl
              refine pure_ (i := 1) (N := some 83) (v := ?_) (a' := ?_) #[true, true, false, false, false, false, false, false, false, false, false, false, false, false] rfl rfl (by kernel_rfl) (fun _ _ _ h => h) (Or.inl ⟨by rfl, ?_⟩) ?_ ?_
              rotate_left
              · intro w'
                go_simp
                first | done | with_reducible rfl
              rotate_left
              · simp only [Act.put, List.setIfInBounds_toArray, List.set_cons_zero, List.set_cons_succ, i64_w, i32_w]
                rfl
              refine pure_ (i := 2) (N := some 84) (v := ?_) (a' := ?_) #[true, true, true, false, false, false, false, false, false, false, false, false, false, false] rfl rfl (by kernel_rfl) (fun _ _ _ h => h) (Or.inl ⟨by rfl, ?_⟩) ?_ ?_
              rotate_left
              · intro w'
                go_simp
                first | done | with_reducible rfl
              rotate_left
              · simp only [Act.put, List.setIfInBounds_toArray, List.set_cons_zero, List.set_cons_succ, i64_w, i32_w]
                rfl
              refine pure_ (i := 3) (N := some 85) (v := ?_) (a' := ?_) #[true, true, true, true, false, false, false, false, false, false, false, false, false, false] rfl rfl (by kernel_rfl) (fun _ _ _ h => h) (Or.inl ⟨by rfl, ?_⟩) ?_ ?_
              rotate_left
              · intro w'
                go_simp
                first | done | with_reducible rfl
              rotate_left
              · simp only [Act.put, List.setIfInBounds_toArray, List.set_cons_zero, List.set_cons_succ, i64_w, i32_w]
                rfl
              refine take_ (i := 4) (N := some 86) (v := ?_) (a' := ?_) #[true, true, true, true, true, false, false, false, false, false, false, false, false, false] rfl rfl (by kernel_rfl) (fun _ _ _ h => h) (Or.inl ⟨by rfl, ?_⟩) hHeld ?_ ?_
              rotate_left
              · rintro w' ⟨hb, s0, s1⟩
                go_simp
                first | done | with_reducible rfl
              rotate_left
              · simp only [Act.put, List.setIfInBounds_toArray, List.set_cons_zero, List.set_cons_succ, i64_w, i32_w]
                rfl
              refine pure_ (i := 5) (N := some 87) (v := ?_) (a' := ?_) #[true, true, true, true, true, true, false, false, false, false, false, false, false, false] rfl rfl (by kernel_rfl) (fun _ _ _ h => h) (Or.inl ⟨by rfl, ?_⟩) ?_ ?_
              rotate_left
              · intro w'
                go_simp
                first | done | with_reducible rfl
              rotate_left
              · simp only [Act.put, List.setIfInBounds_toArray, List.set_cons_zero, List.set_cons_succ, i64_w, i32_w]
                rfl
              refine pure_ (i := 6) (N := some 88) (v := ?_) (a' := ?_) #[true, true, true, true, true, true, true, false, false, false, false, false, false, false] rfl rfl (by kernel_rfl) (fun _ _ _ h => h) (Or.inl ⟨by rfl, ?_⟩) ?_ ?_
              rotate_left
              · intro w'
                go_simp
                first | done | with_reducible rfl
              rotate_left
              · simp only [Act.put, List.setIfInBounds_toArray, List.set_cons_zero, List.set_cons_succ, i64_w, i32_w]
                rfl
              refine pure_ (i := 7) (N := some 89) (v := ?_) (a' := ?_) #[true, true, true, true, true, true, true, true, false, false, false, false, false, false] rfl rfl (by kernel_rfl) (fun _ _ _ h => h) (Or.inl ⟨by rfl, ?_⟩) ?_ ?_
              rotate_left
              · intro w'
                go_simp
                first | done | with_reducible rfl
              rotate_left
              · simp only [Act.put, List.setIfInBounds_toArray, List.set_cons_zero, List.set_cons_succ, i64_w, i32_w]
                rfl
              refine take_ (i := 8) (N := some 90) (v := ?_) (a' := ?_) #[true, true, true, true, true, true, true, true, true, false, false, false, false, false] rfl rfl (by kernel_rfl) (fun _ _ _ h => h) (Or.inl ⟨by rfl, ?_⟩) hHeld ?_ ?_
              rotate_left
              · rintro w' ⟨hb, s0, s1⟩
                go_simp
                first | done | with_reducible rfl
              rotate_left
              · simp only [Act.put, List.setIfInBounds_toArray, List.set_cons_zero, List.set_cons_succ, i64_w, i32_w]
                rfl
              refine one_ (i := 9) (N := some 91) #[true, true, true, true, true, true, true, true, true, true, false, false, false, false] rfl rfl (by kernel_rfl) (by decide) (fun K hK => ?_)
              refine value_ (by rfl) rfl (by go_simp; first | rfl | exact ⟨rfl, rfl⟩) ?_
              refine hK.out _ _ (keep2 hHeld (below_alloc (Below.refl _ _) _)) (fun hHeld1 => ?_)
              clear hK K
              refine norm_ (a' := ?_) ?_ ?_
              rotate_left
              · show Act.put _ (some 91) _ = _
                simp only [Act.put, List.setIfInBounds_toArray, List.set_cons_zero, List.set_cons_succ, i64_w, i32_w]
                rfl
              refine tail_list 10 (t := [10, 11, 12, 13]) (fuel := 0) rfl rfl rfl (by kernel_rfl) (by decide) ?_
              clear hS hHeld hHeld1
              obtain ⟨W0, hW0⟩ : ∃ W0, W0 = w6.drew := ⟨_, rfl⟩
              have hW1 : (w6.alloc (.cells #[.string x] 9)).drew = W0.alloc (.cells #[.string x] 9) := by rw [hW0]; rfl
              rw [hW1]
              have HSZ0 := Lib.hid (show W0.heap.size = w6.heap.size by rw [hW0]; rfl)
              have HST7 := Lib.hid (show DSt w W0 w.heap.size pb ob xb _ na ca _ nb cb vr (DD a b) blk done (some (openK k cur)) (.slice (some ⟨g1, 0, none⟩) (done.length + 1) cap) vo' vn' by rw [hW0]; exact HST6.out.below (Below.refl _ _).drew)
              have HR7 := Lib.hid (show Kd.string.R 9 W0 w.heap.size (fun _ => True) (vo' done.length) (openK k cur).old by rw [hW0]; exact Kd.R_drew HRO.out)
              have HC7 := Lib.hid (show W0.heap[g1]? = some (.cells cells6 24 (0, 0)) by rw [hW0]; exact HC6.out)
              clear hW1 hW0 HST6 HRO
              show wpList _ _ _ (_ :: _) _ _
              refine (Kd.R_append Kd.string (w0 := w) (W := W0) w.heap.size rfl _ _ 22 9 (.string ⟨#[]⟩) 16 rfl Try.underlying22 infoS rfl (by decide) (by decide) (vo' done.length) (openK k cur).old x [.string x] (fun _ => True) (fun _ => False) (by rw [HVO.out]; rfl) (by rw [HSZ0.out]; rfl) rfl (fun _ h => h.elim) (fun _ _ => trivial) HR7.out HST7.out.bel HST7.out.bel.size (by have := HBN.out.2; omega) ?_)
              intro v1 w7 hR7 hB7 hg7 hat7
              have hst7 := HST7.out.put_old hR7 hB7 hg7 hat7
              obtain ⟨Av, cv, rfl, _, _, _⟩ := R_addr hR7
              have el : ((openK k cur).old ++ [x]).length = (openK k cur).old.length + 1 := by simp
              rw [el] at hst7 hR7 ⊢
              clear el
              have hcells7 : w7.heap[g1]? = some (.cells cells6 24 (0, 0)) := (hg7.block g1 (blk_lt HC7.out) (Kd.R_ne HR7.out HC7.out (by decide))).trans HC7.out
              have c7 : w7.cell? ⟨g1, gn + 1, none⟩ = some (vo' done.length) := by rw [HGN.out]; exact (blk_cell hcells7 _).trans ((blk_cell HC6.out _).symm.trans HQ.out)
              have f7 : w7.frozen? ⟨g1, gn + 1, none⟩ = false := blk_frozen hcells7 _
              have l7 := blk_lt hcells7
              rw [← HGN.out] at hst7
              have HST8 := Lib.hid hst7
              clear hst7 hR7 hB7 hg7 hat7 hcells7 HST7 HR7 HC7 HQ HC6
              go_wp2_with fail
              exact ⟨⟨i + 1, k, done, some _, _, _, _, by omega, by omega, by go_num, by go_num, HST8.out, HAT6.out⟩, by simp [intOf]; omega⟩
          | false =>
            obtain ⟨h2, hat5⟩ := at_ins HAT.out (by rw [HNA.out]; exact hi) (by rw [HNB.out]; exact hk) (by rw [HNA.out, HNB.out]; exact HOR.out) hkeep hgo
            rw [putIn_open] at hat5
            have h2n : k < nb := by rw [← HNB.out]; exact h2
            rw [hgo] at hge
            clear hgo hkeep
            have hbn := HBND.out
            have hl5 : done.length < 100000 := by omega
            have hcost := open_cost k cur
            have hfl : (openK k cur).new.length ≤ 1200 := by omega
            have HBN := Lib.hid (And.intro hl5 hfl)
            clear hbn hcost
            go_wp2_with fail
            refine (hunk_any k cur HSTb.out hl5).mono ?_
            rintro e w6 ⟨g, cap, vo', vn', rfl, hst6⟩
            clear hl5 hfl
            have HST6 := Lib.hid hst6
            obtain ⟨q0, q1, q2⟩ := hst6.hks.get g cap (by simp) (i := done.length) (by simp)
            have hRo := hst6.hks.new done.length (by simp)
            rw [getD_last' done (openK k cur)] at hRo
            obtain ⟨Ao, co, hvo, _, _, _⟩ := R_addr hRo
            have HVO := Lib.hid hvo
            have HRO := Lib.hid hRo
            have hrw := hst6.hks.rows
            rw [show (done ++ (some (openK k cur)).toList).length = done.length + 1 by simp] at hrw
            obtain ⟨g1, c1, he1, hc1, hbg, hgl, cells6, hcells6⟩ := own_form hrw (by omega)
            have hgg : g1 = g := by injection he1 with he1; injection he1 with he1; injection he1 with he1; exact he1.symm
            subst hgg
            clear he1 hrw hc1 hRo q0
            obtain ⟨ad, rfl, ca6⟩ := Kd.at_string (Kd.C_below HB.out hst6.bel) (k : Int) (by omega) (by omega)
            rw [rdOf_nat _ _ _ h2, Int.toNat_natCast] at ca6
            obtain ⟨x, hx⟩ : ∃ x, x = b[k] := ⟨_, rfl⟩
            rw [← hx] at ca6 hat5
            have HAT6 := Lib.hid hat5
            have HC6 := Lib.hid hcells6
            have HQ := Lib.hid q2
            have hqq := q2
            rw [hvo] at hqq
            obtain ⟨gn, hgn⟩ : ∃ gn, gn = done.length * 3 := ⟨_, rfl⟩
            rw [← hgn] at hqq ⊢
            have HGN := Lib.hid hgn
            clear hst6 q1 q2 hx hcells6 hat5 hvo hgn
            go_upto_region 8 with (fail)
            have hS := And.intro (Below.refl w6.heap.size w6) (And.intro hqq ca6)
            clear hqq ca6
            refine start_ (S := fun w' => Below w6.heap.size w6 w' ∧ w'.cell? ⟨g1, gn + 2, none⟩ = some (.slice Ao (openK k cur).new.length co) ∧ w'.cell? (ad.add k) = some (.string x)) (ds := [10, 11, 12, 13]) (n := 14) #[false, false, false, false, false, false, false, false, false, false, false, false, false, false] rfl rfl rfl ?hS0 (fun hHeld => ?hrun)
            case hS0 => exact keep2 hS ((Below.refl _ _).drew)
            case hrun =>
              refine pure_ (i := 0) (N := some 30) (v := ?_) (a' := ?_) #[true, false, false, false, false, false, false, false, false, false, false, false, false, false] rfl rfl (by kernel_rfl) (fun _ _ _ h => h) (Or.inl ⟨by rfl, ?_⟩) ?_ ?_
              rotate_left
              · intro w'
                go_simp
                first | done | with_reducible rfl
              rotate_left
              · simp only [Act.put, List.setIfInBounds_toArray, List.set_cons_zero, List.set_cons_succ, i64_w, i32_w]
                rfl
              refine pure_ (i := 1) (N := some 31) (v := ?_) (a' := ?_) #[true, true, false, false, false, false, false, false, false, false, false, false, false, false] rfl rfl (by kernel_rfl) (fun _ _ _ h => h) (Or.inl ⟨by rfl, ?_⟩) ?_ ?_
              rotate_left
              · intro w'
                go_simp
                first | done | with_reducible rfl
              rotate_left
              · simp only [Act.put, List.setIfInBounds_toArray, List.set_cons_zero, List.set_cons_succ, i64_w, i32_w]
                rfl
              refine pure_ (i := 2) (N := some 32) (v := ?_) (a' := ?_) #[true, true, true, false, false, false, false, false, false, false, false, false, false, false] rfl rfl (by kernel_rfl) (fun _ _ _ h => h) (Or.inl ⟨by rfl, ?_⟩) ?_ ?_
              rotate_left
              · intro w'
                go_simp
                first | done | with_reducible rfl
              rotate_left
              · simp only [Act.put, List.setIfInBounds_toArray, List.set_cons_zero, List.set_cons_succ, i64_w, i32_w]
                rfl
              refine pure_ (i := 3) (N := some 33) (v := ?_) (a' := ?_) #[true, true, true, true, false, false, false, false, false, false, false, false, false, false] rfl rfl (by kernel_rfl) (fun _ _ _ h => h) (Or.inl ⟨by rfl, ?_⟩) ?_ ?_
              rotate_left
              · intro w'
                go_simp
                first | done | with_reducible rfl
              rotate_left
              · simp only [Act.put, List.setIfInBounds_toArray, List.set_cons_zero, List.set_cons_succ, i64_w, i32_w]
                rfl
              refine take_ (i := 4) (N := some 34) (v := ?_) (a' := ?_) #[true, true, true, true, true, false, false, false, false, false, false, false, false, false] rfl rfl (by kernel_rfl) (fun _ _ _ h => h) (Or.inl ⟨by rfl, ?_⟩) hHeld ?_ ?_
              rotate_left
              · rintro w' ⟨hb, s0, s1⟩
                go_simp
                first | done | with_reducible rfl
              rotate_left
              · simp only [Act.put, List.setIfInBounds_toArray, List.set_cons_zero, List.set_cons_succ, i64_w, i32_w]
                rfl
              refine pure_ (i := 5) (N := some 35) (v := ?_) (a' := ?_) #[true, true, true, true, true, true, false, false, false, false, false, false, false, false] rfl rfl (by kernel_rfl) (fun _ _ _ h => h) (Or.inl ⟨by rfl, ?_⟩) ?_ ?_
              rotate_left
              · intro w'
                go_simp
                first | done | with_reducible rfl
              rotate_left
              · simp only [Act.put, List.setIfInBounds_toArray, List.set_cons_zero, List.set_cons_succ, i64_w, i32_w]
                rfl
              refine pure_ (i := 6) (N := some 36) (v := ?_) (a' := ?_) #[true, true, true, true, true, true, true, false, false, false, false, false, false, false] rfl rfl (by kernel_rfl) (fun _ _ _ h => h) (Or.inl ⟨by rfl, ?_⟩) ?_ ?_
              rotate_left
              · intro w'
                go_simp
                first | done | with_reducible rfl
              rotate_left
              · simp only [Act.put, List.setIfInBounds_toArray, List.set_cons_zero, List.set_cons_succ, i64_w, i32_w]
                rfl
              refine pure_ (i := 7) (N := some 37) (v := ?_) (a' := ?_) #[true, true, true, true, true, true, true, true, false, false, false, false, false, false] rfl rfl (by kernel_rfl) (fun _ _ _ h => h) (Or.inl ⟨by rfl, ?_⟩) ?_ ?_
              rotate_left
              · intro w'
                go_simp
                first | done | with_reducible rfl
              rotate_left
              · simp only [Act.put, List.setIfInBounds_toArray, List.set_cons_zero, List.set_cons_succ, i64_w, i32_w]
                rfl
              refine take_ (i := 8) (N := some 38) (v := ?_) (a' := ?_) #[true, true, true, true, true, true, true, true, true, false, false, false, false, false] rfl rfl (by kernel_rfl) (fun _ _ _ h => h) (Or.inl ⟨by rfl, ?_⟩) hHeld ?_ ?_
              rotate_left
              · rintro w' ⟨hb, s0, s1⟩
                go_simp
                first | done | with_reducible rfl
              rotate_left
              · simp only [Act.put, List.setIfInBounds_toArray, List.set_cons_zero, List.set_cons_succ, i64_w, i32_w]
                rfl
              refine one_ (i := 9) (N := some 39) #[true, true, true, true, true, true, true, true, true, true, false, false, false, false] rfl rfl (by kernel_rfl) (by decide) (fun K hK => ?_)
              refine value_ (by rfl) rfl (by go_simp; first | rfl | exact ⟨rfl, rfl⟩) ?_
              refine hK.out _ _ (keep2 hHeld (below_alloc (Below.refl _ _) _)) (fun hHeld1 => ?_)
              clear hK K
              refine norm_ (a' := ?_) ?_ ?_
              rotate_left
              · show Act.put _ (some 39) _ = _
                simp only [Act.put, List.setIfInBounds_toArray, List.set_cons_zero, List.set_cons_succ, i64_w, i32_w]
                rfl
              refine tail_list 10 (t := [10, 11, 12, 13]) (fuel := 0) rfl rfl rfl (by kernel_rfl) (by decide) ?_
              clear hS hHeld hHeld1
              obtain ⟨W0, hW0⟩ : ∃ W0, W0 = w6.drew := ⟨_, rfl⟩
              have hW1 : (w6.alloc (.cells #[.string x] 9)).drew = W0.alloc (.cells #[.string x] 9) := by rw [hW0]; rfl
              rw [hW1]
              have HSZ0 := Lib.hid (show W0.heap.size = w6.heap.size by rw [hW0]; rfl)
              have HST7 := Lib.hid (show DSt w W0 w.heap.size pb ob xb _ na ca _ nb cb vr (DD a b) blk done (some (openK k cur)) (.slice (some ⟨g1, 0, none⟩) (done.length + 1) cap) vo' vn' by rw [hW0]; exact HST6.out.below (Below.refl _ _).drew)
              have HR7 := Lib.hid (show Kd.string.R 9 W0 w.heap.size (fun _ => True) (vn' done.length) (openK k cur).new by rw [hW0]; exact Kd.R_drew HRO.out)
              have HC7 := Lib.hid (show W0.heap[g1]? = some (.cells cells6 24 (0, 0)) by rw [hW0]; exact HC6.out)
              clear hW1 hW0 HST6 HRO
              show wpList _ _ _ (_ :: _) _ _
              refine (Kd.R_append Kd.string (w0 := w) (W := W0) w.heap.size rfl _ _ 22 9 (.string ⟨#[]⟩) 16 rfl Try.underlying22 infoS rfl (by decide) (by decide) (vn' done.length) (openK k cur).new x [.string x] (fun _ => True) (fun _ => False) (by rw [HVO.out]; rfl) (by rw [HSZ0.out]; rfl) rfl (fun _ h => h.elim) (fun _ _ => trivial) HR7.out HST7.out.bel HST7.out.bel.size (by have := HBN.out.2; omega) ?_)
              intro v1 w7 hR7 hB7 hg7 hat7
              have hst7 := HST7.out.put_new hR7 hB7 hg7 hat7
              obtain ⟨Av, cv, rfl, _, _, _⟩ := R_addr hR7
              have el : ((openK k cur).new ++ [x]).length = (openK k cur).new.length + 1 := by simp
              rw [el] at hst7 hR7 ⊢
              clear el
              have hcells7 : w7.heap[g1]? = some (.cells cells6 24 (0, 0)) := (hg7.block g1 (blk_lt HC7.out) (Kd.R_ne HR7.out HC7.out (by decide))).trans HC7.out
              have c7 : w7.cell? ⟨g1, gn + 2, none⟩ = some (vn' done.length) := by rw [HGN.out]; exact (blk_cell hcells7 _).trans ((blk_cell HC6.out _).symm.trans HQ.out)
              have f7 : w7.frozen? ⟨g1, gn + 2, none⟩ = false := blk_frozen hcells7 _
              have l7 := blk_lt hcells7
              rw [← HGN.out] at hst7
              have HST8 := Lib.hid hst7
              clear hst7 hR7 hB7 hg7 hat7 hcells7 HST7 HR7 HC7 HQ HC6
              go_wp2_with fail
              exact ⟨⟨i, k + 1, done, some _, _, _, _, by omega, by omega, by go_num, by go_num, HST8.out, HAT6.out⟩, by simp [intOf]; omega⟩
      · have d1 : decide ((i : Int) < (na : Int)) = false := decide_eq_false (by omega)
        have hkn : k < nb := by have := HOR.out; omega
        have d2 : decide ((k : Int) < (nb : Int)) = true := decide_eq_true (by omega)
        go_wp2_with fail
        refine (alike_x na nb _ pb A ca B cb _ a b HNA.out HNB.out _ _ i k (by omega) (by omega) HST.out.prs.head (Kd.C_below HA.out HST.out.bel) (Kd.C_below HB.out HST.out.bel)).mono ?_
        rintro e w2 ⟨rfl, hB2⟩
        have HST2 := Lib.hid (HST.out.below hB2)
        clear hB2 HST
        have hal : alikeB a b i k = false := decide_eq_false (fun h => hin (by rw [← HNA.out]; exact h.1))
        have hkeep : keepB a b i k = false := by unfold keepB; rw [hal]; rfl
        go_wp2_with fail
        refine (at_x _ pb w.heap.size A na ca B nb cb _ _ blk _ _ (i + 1) k (by omega) (by omega) HST2.out.prs).mono ?_
        rintro e wa ⟨rfl, hBa⟩
        have HSTa := Lib.hid (HST2.out.below hBa)
        clear hBa HST2
        obtain ⟨F3, hF3⟩ : ∃ F, F = fv (prc na nb (DD a b) (i + 1) k) := ⟨_, rfl⟩
        rw [← hF3]
        have HF3 := Lib.hid hF3
        clear hF3
        go_wp2_with fail
        refine (at_x _ pb w.heap.size A na ca B nb cb _ _ blk _ _ i (k + 1) (by omega) (by omega) HSTa.out.prs).mono ?_
        rintro e wb ⟨rfl, hBb⟩
        have HSTb := Lib.hid (HSTa.out.below hBb)
        clear hBb HSTa
        have hge := goes_float (i := i) (k := k) HOKP.out HNA.out HNB.out
        obtain ⟨F4, hF4⟩ : ∃ F, F = fv (prc na nb (DD a b) i (k + 1)) := ⟨_, rfl⟩
        rw [← HF3.out, ← hF4] at hge
        rw [← hF4]
        clear hF4
        cases hgo : goesB a b i k with
        | true =>
          obtain ⟨h1, hat5⟩ := at_del HAT.out (by rw [HNA.out]; exact hi) (by rw [HNB.out]; exact hk) (by rw [HNA.out, HNB.out]; exact HOR.out) hkeep hgo
          rw [takeOut_open] at hat5
          have h1n : i < na := by rw [← HNA.out]; exact h1
          rw [hgo] at hge
          clear hgo hkeep
          exact absurd h1n hin
        | false =>
          obtain ⟨h2, hat5⟩ := at_ins HAT.out (by rw [HNA.out]; exact hi) (by rw [HNB.out]; exact hk) (by rw [HNA.out, HNB.out]; exact HOR.out) hkeep hgo
          rw [putIn_open] at hat5
          have h2n : k < nb := by rw [← HNB.out]; exact h2
          rw [hgo] at hge
          clear hgo hkeep
          have hbn := HBND.out
          have hl5 : done.length < 100000 := by omega
          have hcost := open_cost k cur
          have hfl : (openK k cur).new.length ≤ 1200 := by omega
          have HBN := Lib.hid (And.intro hl5 hfl)
          clear hbn hcost
          go_wp2_with fail
          refine (hunk_any k cur HSTb.out hl5).mono ?_
          rintro e w6 ⟨g, cap, vo', vn', rfl, hst6⟩
          clear hl5 hfl
          have HST6 := Lib.hid hst6
          obtain ⟨q0, q1, q2⟩ := hst6.hks.get g cap (by simp) (i := done.length) (by simp)
          have hRo := hst6.hks.new done.length (by simp)
          rw [getD_last' done (openK k cur)] at hRo
          obtain ⟨Ao, co, hvo, _, _, _⟩ := R_addr hRo
          have HVO := Lib.hid hvo
          have HRO := Lib.hid hRo
          have hrw := hst6.hks.rows
          rw [show (done ++ (some (openK k cur)).toList).length = done.length + 1 by simp] at hrw
          obtain ⟨g1, c1, he1, hc1, hbg, hgl, cells6, hcells6⟩ := own_form hrw (by omega)
          have hgg : g1 = g := by injection he1 with he1; injection he1 with he1; injection he1 with he1; exact he1.symm
          subst hgg
          clear he1 hrw hc1 hRo q0
          obtain ⟨ad, rfl, ca6⟩ := Kd.at_string (Kd.C_below HB.out hst6.bel) (k : Int) (by omega) (by omega)
          rw [rdOf_nat _ _ _ h2, Int.toNat_natCast] at ca6
          obtain ⟨x, hx⟩ : ∃ x, x = b[k] := ⟨_, rfl⟩
          rw [← hx] at ca6 hat5
          have HAT6 := Lib.hid hat5
          have HC6 := Lib.hid hcells6
          have HQ := Lib.hid q2
          have hqq := q2
          rw [hvo] at hqq
          obtain ⟨gn, hgn⟩ : ∃ gn, gn = done.length * 3 := ⟨_, rfl⟩
          rw [← hgn] at hqq ⊢
          have HGN := Lib.hid hgn
          clear hst6 q1 q2 hx hcells6 hat5 hvo hgn
          go_upto_region 8 with (fail)
          have hS := And.intro (Below.refl w6.heap.size w6) (And.intro hqq ca6)
          clear hqq ca6
          refine start_ (S := fun w' => Below w6.heap.size w6 w' ∧ w'.cell? ⟨g1, gn + 2, none⟩ = some (.slice Ao (openK k cur).new.length co) ∧ w'.cell? (ad.add k) = some (.string x)) (ds := [10, 11, 12, 13]) (n := 14) #[false, false, false, false, false, false, false, false, false, false, false, false, false, false] rfl rfl rfl ?hS0 (fun hHeld => ?hrun)
          case hS0 => exact keep2 hS ((Below.refl _ _).drew)
          case hrun =>
            refine pure_ (i := 0) (N := some 30) (v := ?_) (a' := ?_) #[true, false, false, false, false, false, false, false, false, false, false, false, false, false] rfl rfl (by kernel_rfl) (fun _ _ _ h => h) (Or.inl ⟨by rfl, ?_⟩) ?_ ?_
            rotate_left
            · intro w'
              go_simp
              first | done | with_reducible rfl
            rotate_left
            · simp only [Act.put, List.setIfInBounds_toArray, List.set_cons_zero, List.set_cons_succ, i64_w, i32_w]
              rfl
            refine pure_ (i := 1) (N := some 31) (v := ?_) (a' := ?_) #[true, true, false, false, false, false, false, false, false, false, false, false, false, false] rfl rfl (by kernel_rfl) (fun _ _ _ h => h) (Or.inl ⟨by rfl, ?_⟩) ?_ ?_
            rotate_left
            · intro w'
              go_simp
              first | done | with_reducible rfl
            rotate_left
            · simp only [Act.put, List.setIfInBounds_toArray, List.set_cons_zero, List.set_cons_succ, i64_w, i32_w]
              rfl
            refine pure_ (i := 2) (N := some 32) (v := ?_) (a' := ?_) #[true, true, true, false, false, false, false, false, false, false, false, false, false, false] rfl rfl (by kernel_rfl) (fun _ _ _ h => h) (Or.inl ⟨by rfl, ?_⟩) ?_ ?_
            rotate_left
            · intro w'
              go_simp
              first | done | with_reducible rfl
            rotate_left
            · simp only [Act.put, List.setIfInBounds_toArray, List.set_cons_zero, List.set_cons_succ, i64_w, i32_w]
              rfl
            refine pure_ (i := 3) (N := some 33) (v := ?_) (a' := ?_) #[true, true, true, true, false, false, false, false, false, false, false, false, false, false] rfl rfl (by kernel_rfl) (fun _ _ _ h => h) (Or.inl ⟨by rfl, ?_⟩) ?_ ?_
            rotate_left
            · intro w'
              go_simp
              first | done | with_reducible rfl
            rotate_left
            · simp only [Act.put, List.setIfInBounds_toArray, List.set_cons_zero, List.set_cons_succ, i64_w, i32_w]
              rfl
            refine take_ (i := 4) (N := some 34) (v := ?_) (a' := ?_) #[true, true, true, true, true, false, false, false, false, false, false, false, false, false] rfl rfl (by kernel_rfl) (fun _ _ _ h => h) (Or.inl ⟨by rfl, ?_⟩) hHeld ?_ ?_
            rotate_left
            · rintro w' ⟨hb, s0, s1⟩
              go_simp
              first | done | with_reducible rfl
            rotate_left
            · simp only [Act.put, List.setIfInBounds_toArray, List.set_cons_zero, List.set_cons_succ, i64_w, i32_w]
              rfl
            refine pure_ (i := 5) (N := some 35) (v := ?_) (a' := ?_) #[true, true, true, true, true, true, false, false, false, false, false, false, false, false] rfl rfl (by kernel_rfl) (fun _ _ _ h => h) (Or.inl ⟨by rfl, ?_⟩) ?_ ?_
            rotate_left
            · intro w'
              go_simp
              first | done | with_reducible rfl
            rotate_left
            · simp only [Act.put, List.setIfInBounds_toArray, List.set_cons_zero, List.set_cons_succ, i64_w, i32_w]
              rfl
            refine pure_ (i := 6) (N := some 36) (v := ?_) (a' := ?_) #[true, true, true, true, true, true, true, false, false, false, false, false, false, false] rfl rfl (by kernel_rfl) (fun _ _ _ h => h) (Or.inl ⟨by rfl, ?_⟩) ?_ ?_
            rotate_left
            · intro w'
              go_simp
              first | done | with_reducible rfl
            rotate_left
            · simp only [Act.put, List.setIfInBounds_toArray, List.set_cons_zero, List.set_cons_succ, i64_w, i32_w]
              rfl
            refine pure_ (i := 7) (N := some 37) (v := ?_) (a' := ?_) #[true, true, true, true, true, true, true, true, false, false, false, false, false, false] rfl rfl (by kernel_rfl) (fun _ _ _ h => h) (Or.inl ⟨by rfl, ?_⟩) ?_ ?_
            rotate_left
            · intro w'
              go_simp
              first | done | with_reducible rfl
            rotate_left
            · simp only [Act.put, List.setIfInBounds_toArray, List.set_cons_zero, List.set_cons_succ, i64_w, i32_w]
              rfl
            refine take_ (i := 8) (N := some 38) (v := ?_) (a' := ?_) #[true, true, true, true, true, true, true, true, true, false, false, false, false, false] rfl rfl (by kernel_rfl) (fun _ _ _ h => h) (Or.inl ⟨by rfl, ?_⟩) hHeld ?_ ?_
            rotate_left
            · rintro w' ⟨hb, s0, s1⟩
              go_simp
              first | done | with_reducible rfl
            rotate_left
            · simp only [Act.put, List.setIfInBounds_toArray, List.set_cons_zero, List.set_cons_succ, i64_w, i32_w]
              rfl
            refine one_ (i := 9) (N := some 39) #[true, true, true, true, true, true, true, true, true, true, false, false, false, false] rfl rfl (by kernel_rfl) (by decide) (fun K hK => ?_)
            refine value_ (by rfl) rfl (by go_simp; first | rfl | exact ⟨rfl, rfl⟩) ?_
            refine hK.out _ _ (keep2 hHeld (below_alloc (Below.refl _ _) _)) (fun hHeld1 => ?_)
            clear hK K
            refine norm_ (a' := ?_) ?_ ?_
            rotate_left
            · show Act.put _ (some 39) _ = _
              simp only [Act.put, List.setIfInBounds_toArray, List.set_cons_zero, List.set_cons_succ, i64_w, i32_w]
              rfl
            refine tail_list 10 (t := [10, 11, 12, 13]) (fuel := 0) rfl rfl rfl (by kernel_rfl) (by decide) ?_
            clear hS hHeld hHeld1
            obtain ⟨W0, hW0⟩ : ∃ W0, W0 = w6.drew := ⟨_, rfl⟩
            have hW1 : (w6.alloc (.cells #[.string x] 9)).drew = W0.alloc (.cells #[.string x] 9) := by rw [hW0]; rfl
            rw [hW1]
            have HSZ0 := Lib.hid (show W0.heap.size = w6.heap.size by rw [hW0]; rfl)
            have HST7 := Lib.hid (show DSt w W0 w.heap.size pb ob xb _ na ca _ nb cb vr (DD a b) blk done (some (openK k cur)) (.slice (some ⟨g1, 0, none⟩) (done.length + 1) cap) vo' vn' by rw [hW0]; exact HST6.out.below (Below.refl _ _).drew)
            have HR7 := Lib.hid (show Kd.string.R 9 W0 w.heap.size (fun _ => True) (vn' done.length) (openK k cur).new by rw [hW0]; exact Kd.R_drew HRO.out)
            have HC7 := Lib.hid (show W0.heap[g1]? = some (.cells cells6 24 (0, 0)) by rw [hW0]; exact HC6.out)
            clear hW1 hW0 HST6 HRO
            show wpList _ _ _ (_ :: _) _ _
            refine (Kd.R_append Kd.string (w0 := w) (W := W0) w.heap.size rfl _ _ 22 9 (.string ⟨#[]⟩) 16 rfl Try.underlying22 infoS rfl (by decide) (by decide) (vn' done.length) (openK k cur).new x [.string x] (fun _ => True) (fun _ => False) (by rw [HVO.out]; rfl) (by rw [HSZ0.out]; rfl) rfl (fun _ h => h.elim) (fun _ _ => trivial) HR7.out HST7.out.bel HST7.out.bel.size (by have := HBN.out.2; omega) ?_)
            intro v1 w7 hR7 hB7 hg7 hat7
            have hst7 := HST7.out.put_new hR7 hB7 hg7 hat7
            obtain ⟨Av, cv, rfl, _, _, _⟩ := R_addr hR7
            have el : ((openK k cur).new ++ [x]).length = (openK k cur).new.length + 1 := by simp
            rw [el] at hst7 hR7 ⊢
            clear el
            have hcells7 : w7.heap[g1]? = some (.cells cells6 24 (0, 0)) := (hg7.block g1 (blk_lt HC7.out) (Kd.R_ne HR7.out HC7.out (by decide))).trans HC7.out
            have c7 : w7.cell? ⟨g1, gn + 2, none⟩ = some (vn' done.length) := by rw [HGN.out]; exact (blk_cell hcells7 _).trans ((blk_cell HC6.out _).symm.trans HQ.out)
            have f7 : w7.frozen? ⟨g1, gn + 2, none⟩ = false := blk_frozen hcells7 _
            have l7 := blk_lt hcells7
            rw [← HGN.out] at hst7
            have HST8 := Lib.hid hst7
            clear hst7 hR7 hB7 hg7 hat7 hcells7 HST7 HR7 HC7 HQ HC6
            go_wp2_with fail
            exact ⟨⟨i, k + 1, done, some _, _, _, _, by omega, by omega, by go_num, by go_num, HST8.out, HAT6.out⟩, by simp [intOf]; omega⟩
end Go.Proofs.Ytjclpepdjnffaaa
