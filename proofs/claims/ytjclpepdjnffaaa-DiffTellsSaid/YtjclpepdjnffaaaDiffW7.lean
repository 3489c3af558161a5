/- The walk of the reference's Diff. -/
import Derived.Test.YtjclpepdjnffaaaDiffF
set_option linter.unusedVariables false
set_option linter.unusedSimpArgs false
namespace Go.Proofs.Ytjclpepdjnffaaa
open Go.RowKit Go.Proofs.YtjclpepdjnffaaaW.PrintWords Go.Proofs.YtjclpepdjnffaaaW.PrintLast

theorem gb_setBoth {w w' : World} {row : Option Nat} (h : w.grownBy w' row) (p : Addr) (u : Value) (hp : some p.block ≠ row) (hl : p.block < w.heap.size) (hs : p.spot = none) : (w.setCell p u).grownBy (w'.setCell p u) row := by
  refine ⟨h.os, h.tape, h.output, by simpa [World.setCell] using h.size, fun i hi hne => ?_⟩
  have hi' : i < w.heap.size := by simpa [World.setCell] using hi
  by_cases e : i = p.block
  · subst e
    have hb := h.block p.block hi' hne
    simp only [World.setCell, Array.getElem?_modify, if_pos, hb]
  · rw [Below.heap_setCell w' p u i e, Below.heap_setCell w p u i e]
    exact h.block i hi' hne
theorem HkAt.farB {ts th : TypeId} {w : World} {base : Nat} {vo vn : Nat → Value} {g n cap : Nat} {hs : List (Hk ByteArray)} (h : HkAt ts th w base (.slice (some ⟨g, 0, none⟩) n cap) hs vo vn) {hb j : Nat} {cs : Array Value} {t : TypeId} (hc : w.heap[hb]? = some (.cells cs t (0, 0))) (ht : t ≠ ts) (hne : hb ≠ g) (u : Value) :
    HkAt ts th (w.setCell ⟨hb, j, none⟩ u) base (.slice (some ⟨g, 0, none⟩) n cap) hs vo vn := by
  have hg : w.grownBy (w.setCell ⟨hb, j, none⟩ u) (some hb) := gb_setCell (gb_refl _ _) (p := ⟨hb, j, none⟩) (Or.inl rfl) _
  refine ⟨gb_own h.rows hg (fun b hb' e => ?_), fun i hi => strR_grown (h.old i hi) hg (fun b hb' e => ?_), fun i hi => strR_grown (h.new i hi) hg (fun b hb' e => ?_), h.apo, h.apn, h.apx⟩
  · cases e
    have : g = hb := by simpa [Value.ownBlock] using hb'
    exact hne this.symm
  · cases e; exact Kd.R_ne (h.old i hi) hc (fun x => ht x.symm) hb'.symm
  · cases e; exact Kd.R_ne (h.new i hi) hc (fun x => ht x.symm) hb'.symm
theorem TabAt.set {enc : Nat → Value} {te tr : TypeId} {w : World} {base n m : Nat} {v : Value} {T : Nat → Nat → Nat} {blk : Nat → Nat} (h : TabAt enc te tr w base v n m T blk) {g : Nat} {t : TypeId} {cs : Array Value} (hb : w.heap[g]? = some (.cells cs t (0, 0))) (h1 : t ≠ te) (h2 : t ≠ tr) (j : Nat) (u : Value) : TabAt enc te tr (w.setCell ⟨g, j, none⟩ u) base v n m T blk :=
  h.grownT (gb_setCell (gb_refl _ _) (p := ⟨g, j, none⟩) (Or.inl rfl) _) hb h1 h2
theorem TabAt.grownV {enc : Nat → Value} {te tr : TypeId} {w w' : World} {base n m : Nat} {v : Value} {T : Nat → Nat → Nat} {blk : Nat → Nat} (h : TabAt enc te tr w base v n m T blk) {row : Option Nat} (hg : w.grownBy w' row) (hb : ∀ g, row = some g → ∃ cs t, w.heap[g]? = some (.cells cs t (0, 0)) ∧ t ≠ te ∧ t ≠ tr) : TabAt enc te tr w' base v n m T blk := by
  cases row with
  | none => exact h.below (gb_none hg)
  | some g =>
    obtain ⟨cs, t, hc, h1, h2⟩ := hb g rfl
    exact h.grownT hg hc h1 h2
/-- What the reference's Diff holds. -/
structure RSt (w0 w : World) (base kg kc na nb : Nat) (a b : List ByteArray) (blk : Nat → Nat) (done : List (Hk ByteArray)) (cur : Option (Hk ByteArray)) (v : Value) (vo vn : Nat → Value) : Prop where
  hks : HkAt 9 24 w base v (done ++ cur.toList) vo vn
  tab : TabAt int64 3 37 w base (.slice (some ⟨kg, 0, none⟩) (na + 1) kc) (na + 1) (nb + 1) (LL a b) blk
  bel : Below base w0 w
section
variable {w0 w : World} {base kg kc na nb : Nat} {a b : List ByteArray} {blk : Nat → Nat} {done : List (Hk ByteArray)} {v : Value} {vo vn : Nat → Value}
theorem RSt.below {w' : World} {cur : Option (Hk ByteArray)} (h : RSt w0 w base kg kc na nb a b blk done cur v vo vn) (hb : base ≤ w.heap.size) (hB : Below w.heap.size w w') : RSt w0 w' base kg kc na nb a b blk done cur v vo vn :=
  ⟨h.hks.below hB, h.tab.below hB, below_then h.bel hb hB⟩
theorem RSt.shut {cur : Option (Hk ByteArray)} (h : RSt w0 w base kg kc na nb a b blk done cur v vo vn) : RSt w0 w base kg kc na nb a b blk (done ++ cur.toList) none v vo vn :=
  ⟨by rw [show done ++ cur.toList ++ (none : Option (Hk ByteArray)).toList = done ++ cur.toList by simp]; exact h.hks, h.tab, h.bel⟩
theorem RSt.snoc {w1 : World} {v1 : Value} (h : RSt w0 w base kg kc na nb a b blk done none v vo vn) (p : Nat) (hrow : w1.ownsRow base 24 3 v1 (done.length + 1) (hkCells done vo vn ++ [.int .i64 (p : Int), .slice none 0 0, .slice none 0 0])) (hg : w.grownBy w1 v.ownBlock) (hB : Below base w0 w1) :
    RSt w0 w1 base kg kc na nb a b blk done (some ⟨p, [], []⟩) v1 (fun i => if i = done.length then .slice none 0 0 else vo i) (fun i => if i = done.length then .slice none 0 0 else vn i) := by
  have hh := h.hks
  rw [show done ++ (none : Option (Hk ByteArray)).toList = done by simp] at hh
  exact ⟨hh.snoc p (by decide) hrow hg, h.tab.grownV hg (fun g e => by
    obtain ⟨cs, hc⟩ := own_typed hh.rows g e
    exact ⟨cs, _, hc, by decide, by decide⟩), hB⟩
/-- Behind h.Old = append(h.Old, ..) and out[len(out)-1] = h. -/
theorem RSt.whole_old {w7 : World} {g cap hb : Nat} {x : Hk ByteArray} {u : Value} {o' : List ByteArray} {hc : Array Value} (h : RSt w0 w base kg kc na nb a b blk done (some x) (.slice (some ⟨g, 0, none⟩) (done.length + 1) cap) vo vn)
    (hhb : w.heap[hb]? = some (.cells hc 24 (0, 0))) (hgb : g ≠ hb) (hbase : base ≤ hb) (hR : Kd.string.R 9 w7 base (fun _ => True) u o') (hB : Below base w0 w7) (hg : w.grownBy w7 (vo done.length).ownBlock) (hat : u.ownBlock = (vo done.length).ownBlock ∨ ∃ b, u.ownBlock = some b ∧ w.heap.size ≤ b) :
    RSt w0 ((((w7.setCell ⟨hb, 1, none⟩ u).setCell ⟨g, done.length * 3, none⟩ (.int .i64 (x.pos : Int))).setCell ⟨g, done.length * 3 + 1, none⟩ u).setCell ⟨g, done.length * 3 + 2, none⟩ (vn done.length)) base kg kc na nb a b blk done (some { x with old := o' }) (.slice (some ⟨g, 0, none⟩) (done.length + 1) cap) (fun i => if i = done.length then u else vo i) vn := by
  have hh := h.hks
  have hold := hh.old done.length (by simp)
  have hty : ∀ b, (vo done.length).ownBlock = some b → ∃ cs, w.heap[b]? = some (.cells cs 9 (0, 0)) := fun b hb => Kd.R_typed hold b hb
  have hhb7 : w7.heap[hb]? = some (.cells hc 24 (0, 0)) := (hg.block hb (blk_lt hhb) (Kd.R_ne hold hhb (by decide))).trans hhb
  have hR8 : Kd.string.R 9 (w7.setCell ⟨hb, 1, none⟩ u) base (fun _ => True) u o' := Kd.R_set hR hhb7 (fun q hq => by
    have : q = 9 := by simpa [string_E] using hq
    subst this
    decide) _ _
  have hg8 := gb_setBoth hg ⟨hb, 1, none⟩ u (Kd.R_ne hold hhb (by decide)) (blk_lt hhb) rfl
  have hh2 := (hh.farB hhb (by decide) (fun e => hgb e.symm) u (j := 1)).whole_old (by decide) hR8 hg8 (by simpa [World.setCell] using hat)
  have hrow := hh.rows
  rw [show (done ++ (some x).toList).length = done.length + 1 by simp] at hrow
  obtain ⟨g1, c1, he1, _, hbg, _, cells1, hcells1⟩ := own_form hrow (by omega)
  have hgg : g1 = g := by injection he1 with he1; injection he1 with he1; injection he1 with he1; exact he1.symm
  subst hgg
  have hc7 : w7.heap[g1]? = some (.cells cells1 24 (0, 0)) := (hg.block g1 (blk_lt hcells1) (Kd.R_ne hold hcells1 (by decide))).trans hcells1
  have hc8 : (w7.setCell ⟨hb, 1, none⟩ u).heap[g1]? = some (.cells cells1 24 (0, 0)) := blk_far hc7 (p := ⟨hb, 1, none⟩) hgb _
  have hc9 := blk_set hc8 (done.length * 3) (.int .i64 (x.pos : Int))
  have hc10 := blk_set hc9 (done.length * 3 + 1) u
  refine ⟨hh2, ?_, (((hB.setCell (p := ⟨hb, 1, none⟩) hbase _).setCell (p := ⟨g1, done.length * 3, none⟩) hbg _).setCell (p := ⟨g1, done.length * 3 + 1, none⟩) hbg _).setCell (p := ⟨g1, done.length * 3 + 2, none⟩) hbg _⟩
  have t7 := h.tab.grownV hg (fun b hb => by obtain ⟨cs, hc⟩ := hty b hb; exact ⟨cs, _, hc, by decide, by decide⟩)
  exact (((t7.set hhb7 (by decide) (by decide) 1 u).set hc8 (by decide) (by decide) _ _).set hc9 (by decide) (by decide) _ _).set hc10 (by decide) (by decide) _ _
theorem RSt.whole_new {w7 : World} {g cap hb : Nat} {x : Hk ByteArray} {u : Value} {o' : List ByteArray} {hc : Array Value} (h : RSt w0 w base kg kc na nb a b blk done (some x) (.slice (some ⟨g, 0, none⟩) (done.length + 1) cap) vo vn)
    (hhb : w.heap[hb]? = some (.cells hc 24 (0, 0))) (hgb : g ≠ hb) (hbase : base ≤ hb) (hR : Kd.string.R 9 w7 base (fun _ => True) u o') (hB : Below base w0 w7) (hg : w.grownBy w7 (vn done.length).ownBlock) (hat : u.ownBlock = (vn done.length).ownBlock ∨ ∃ b, u.ownBlock = some b ∧ w.heap.size ≤ b) :
    RSt w0 ((((w7.setCell ⟨hb, 2, none⟩ u).setCell ⟨g, done.length * 3, none⟩ (.int .i64 (x.pos : Int))).setCell ⟨g, done.length * 3 + 1, none⟩ (vo done.length)).setCell ⟨g, done.length * 3 + 2, none⟩ u) base kg kc na nb a b blk done (some { x with new := o' }) (.slice (some ⟨g, 0, none⟩) (done.length + 1) cap) vo (fun i => if i = done.length then u else vn i) := by
  have hh := h.hks
  have hold := hh.new done.length (by simp)
  have hty : ∀ b, (vn done.length).ownBlock = some b → ∃ cs, w.heap[b]? = some (.cells cs 9 (0, 0)) := fun b hb => Kd.R_typed hold b hb
  have hhb7 : w7.heap[hb]? = some (.cells hc 24 (0, 0)) := (hg.block hb (blk_lt hhb) (Kd.R_ne hold hhb (by decide))).trans hhb
  have hR8 : Kd.string.R 9 (w7.setCell ⟨hb, 2, none⟩ u) base (fun _ => True) u o' := Kd.R_set hR hhb7 (fun q hq => by
    have : q = 9 := by simpa [string_E] using hq
    subst this
    decide) _ _
  have hg8 := gb_setBoth hg ⟨hb, 2, none⟩ u (Kd.R_ne hold hhb (by decide)) (blk_lt hhb) rfl
  have hh2 := (hh.farB hhb (by decide) (fun e => hgb e.symm) u (j := 2)).whole_new (by decide) hR8 hg8 (by simpa [World.setCell] using hat)
  have hrow := hh.rows
  rw [show (done ++ (some x).toList).length = done.length + 1 by simp] at hrow
  obtain ⟨g1, c1, he1, _, hbg, _, cells1, hcells1⟩ := own_form hrow (by omega)
  have hgg : g1 = g := by injection he1 with he1; injection he1 with he1; injection he1 with he1; exact he1.symm
  subst hgg
  have hc7 : w7.heap[g1]? = some (.cells cells1 24 (0, 0)) := (hg.block g1 (blk_lt hcells1) (Kd.R_ne hold hcells1 (by decide))).trans hcells1
  have hc8 : (w7.setCell ⟨hb, 2, none⟩ u).heap[g1]? = some (.cells cells1 24 (0, 0)) := blk_far hc7 (p := ⟨hb, 2, none⟩) hgb _
  have hc9 := blk_set hc8 (done.length * 3) (.int .i64 (x.pos : Int))
  have hc10 := blk_set hc9 (done.length * 3 + 1) (vo done.length)
  refine ⟨hh2, ?_, (((hB.setCell (p := ⟨hb, 2, none⟩) hbase _).setCell (p := ⟨g1, done.length * 3, none⟩) hbg _).setCell (p := ⟨g1, done.length * 3 + 1, none⟩) hbg _).setCell (p := ⟨g1, done.length * 3 + 2, none⟩) hbg _⟩
  have t7 := h.tab.grownV hg (fun b hb => by obtain ⟨cs, hc⟩ := hty b hb; exact ⟨cs, _, hc, by decide, by decide⟩)
  exact (((t7.set hhb7 (by decide) (by decide) 2 u).set hc8 (by decide) (by decide) _ _).set hc9 (by decide) (by decide) _ _).set hc10 (by decide) (by decide) _ _
end

set_option maxRecDepth 100000 in
set_option maxHeartbeats 8000000 in
theorem rdiff_n (na nb : Nat) (w : World) (A : Option Addr) (ca : Nat) (B : Option Addr) (cb : Nat) (a b : List ByteArray) (hna : a.length = na) (hnb : b.length = nb) (ha : Kd.string.C w A na a) (hb : Kd.string.C w B nb b) (hn : na + nb ≤ 1200) :
    Calls Try.prog 13 #[.slice A na ca, .slice B nb cb] w fun e w' => ∃ v vo vn, e = .returned v ∧ HkAt 9 24 w' w.heap.size v (hunks a b) vo vn ∧ Below w.heap.size w w' := by
  have HA := Lib.hid ha
  have HB := Lib.hid hb
  have HNA := Lib.hid hna
  have HNB := Lib.hid hnb
  go_enter Try.func13, Try.ntmps13
  go_wp2_with fail
  refine (kept_n na nb w A ca B cb a b hna hnb ha hb hn).mono ?_
  clear ha hb hna hnb
  rintro e w1 ⟨kv, blk, rfl, htab, hB⟩
  obtain ⟨kg, kc, rfl, _, _, _, _⟩ := own_form htab.rows (by omega)
  have hst : RSt w w1 w.heap.size kg kc na nb a b blk [] none (.slice none 0 0) (fun _ => .slice none 0 0) (fun _ => .slice none 0 0) := by
    refine ⟨?_, htab, hB⟩
    exact ⟨own_nil _ _ _ _, fun i hi => absurd hi (Nat.not_lt_zero i), fun i hi => absurd hi (Nat.not_lt_zero i), fun i j b hi => absurd hi (Nat.not_lt_zero i), fun i j b hi => absurd hi (Nat.not_lt_zero i), fun i j b hi => absurd hi (Nat.not_lt_zero i)⟩
  have HST := Lib.hid hst
  clear hst htab hB
  go_wp2_with fail
  go_loopw [6, 7, 8, 9] (fun v vi vk vp wr => ∃ (i k : Nat) (done : List (Hk ByteArray)) (cur : Option (Hk ByteArray)) (vo vn : Nat → Value), i ≤ na ∧ k ≤ nb ∧ vi = .int .i64 (i : Int) ∧ vk = .int .i64 (k : Int) ∧ vp = .bool cur.isSome ∧ RSt w wr w.heap.size kg kc na nb a b blk done cur v vo vn ∧ At6 a b i k done cur) (fun v vi vk vp _ => (na - (intOf vi).toNat) + (nb - (intOf vk).toNat))
  case atStart => exact ⟨0, 0, [], none, _, _, by omega, by omega, rfl, rfl, rfl, HST.out, at_start a b⟩
  case round =>
    obtain ⟨i, k, done, cur, vo, vn, hi, hk, rfl, rfl, rfl, hst, hat⟩ := hrel
    clear HST
    have HST := Lib.hid hst
    have HAT := Lib.hid hat
    clear hst hat
    by_cases hend : i = na ∧ k = nb
    · obtain ⟨rfl, rfl⟩ := hend
      go_wp2_with fail
      go_ret
      have := HAT.out
      rw [← HNA.out, ← HNB.out] at this
      refine ⟨_, vo, vn, rfl, ?_, HST.out.bel⟩
      rw [← at_end this]
      exact HST.out.hks
    · have hor : i < na ∨ k < nb := by omega
      have hbnd := at_bounds HAT.out (by rw [HNA.out, HNB.out]; exact hn)
      have HBND := Lib.hid hbnd
      have HOR := Lib.hid hor
      clear hbnd hor hend
      have hsz : w.heap.size ≤ wr.heap.size := HST.out.bel.size
      by_cases hin : i < na
      · by_cases hkn : k < nb
        · obtain ⟨x1, x2, l1, f1⟩ := HST.out.tab.get kg kc rfl (i := i) (k := k) (by omega) (by omega)
          obtain ⟨y1, y2, l2, f2⟩ := HST.out.tab.get kg kc rfl (i := i + 1) (k := k + 1) (by omega) (by omega)
          obtain ⟨_, _, _, _, _, lg, _⟩ := own_form HST.out.tab.rows (by omega)
          obtain ⟨ad, rfl, ca1⟩ := Kd.at_string (Kd.C_below HA.out HST.out.bel) (i : Int) (by omega) (by omega)
          obtain ⟨bd, rfl, cb1⟩ := Kd.at_string (Kd.C_below HB.out HST.out.bel) (k : Int) (by omega) (by omega)
          rw [rdOf_nat _ _ _ (by rw [HNA.out]; exact hin), Int.toNat_natCast] at ca1
          rw [rdOf_nat _ _ _ (by rw [HNB.out]; exact hkn), Int.toNat_natCast] at cb1
          have hkeq := keep_LL (a := a) (b := b) (i := i) (k := k) (by rw [HNA.out]; exact hin) (by rw [HNB.out]; exact hkn)
          obtain ⟨xa, hxa⟩ : ∃ x, x = a[i]'(by rw [HNA.out]; exact hin) := ⟨_, rfl⟩
          obtain ⟨xb, hxb⟩ : ∃ x, x = b[k]'(by rw [HNB.out]; exact hkn) := ⟨_, rfl⟩
          rw [← hxa] at ca1 hkeq
          rw [← hxb] at cb1 hkeq
          unfold int64 at x2 y2
          have b1 := LL_le a b (i + 1) (k + 1)
          rw [HNA.out] at b1
          obtain ⟨X, hX⟩ : ∃ X, X = LL a b i k := ⟨_, rfl⟩
          obtain ⟨Y, hY⟩ : ∃ Y, Y = LL a b (i + 1) (k + 1) := ⟨_, rfl⟩
          rw [← hX] at x2 hkeq
          rw [← hY] at y2 hkeq b1
          generalize hb1 : blk (i + 1) = blk1 at *
          generalize hb0 : blk i = blk0 at *
          have HXA := Lib.hid (And.intro hxa hxb)
          clear hX hY hxa hxb
          by_cases hxy : xa = xb
          · subst hxy
            by_cases hXY : X = Y + 1
            · have hkeep : keepB a b i k = true := hkeq.2 ⟨rfl, hXY⟩
              clear hkeq hb0 hb1
              subst hXY
              go_wp2_with fail
              go_quiet (fail)
              go_wp2_with fail
              exact ⟨⟨i + 1, k + 1, done ++ cur.toList, none, vo, vn, by omega, by omega, by go_num, by go_num, rfl, (HST.out.below hsz (below_drewN0 _ _)).shut, at_keep HAT.out hkeep⟩, by simp [intOf]; omega⟩
            · have hkeep : keepB a b i k = false := by
                cases h : keepB a b i k with
                | false => rfl
                | true => exact absurd (hkeq.1 h).2 hXY
              have hq2 : ((X : Int) == (Y : Int) + 1) = false := by rw [beq_eq_false_iff_ne]; omega
              clear hkeq
              go_wp2_with fail
              go_quiet (fail)
              have HSTq := Lib.hid (HST.out.below hsz (below_drewN0 wr nq))
              have hszq : w.heap.size ≤ (wr.drewN nq).heap.size := hsz
              generalize wr.drewN nq = wq at *
              clear HST
              cases cur with
              | none =>
                have hbn := HBND.out
                have hl5 : done.length < 100000 := by omega
                clear hbn
                have HROW := Lib.hid (show wq.ownsRow w.heap.size 24 3 u6 done.length (hkCells done vo vn) by have := HSTq.out.hks.rows; simpa using this)
                go_wp2_with (at_builtin; go_loud (refine print_append_cells (w0 := w) (W := wq) w.heap.size rfl _ _ 28 24 (.agg #[.int .i64 0, .slice none 0 0, .slice none 0 0]) 3 56 rfl Try.underlying28 infoH rfl (by decide) (by decide) u6 done.length (hkCells done vo vn) [.int .i64 (k : Int), .slice none 0 0, .slice none 0 0] rfl rfl rfl ?hone0 ?HO0 ?HB0 ?hbase0 ?hl0 ?hk0))
                case hone0 =>
                  intro u hu
                  simp only [List.mem_cons, List.not_mem_nil, or_false] at hu
                  rcases hu with rfl | rfl | rfl <;> rfl
                case HO0 => exact HROW.out
                case HB0 => exact HSTq.out.bel
                case hbase0 => exact hszq
                case hl0 => omega
                intro v1 w2 hrow2 hB2 hg2 hat2
                have hst2 := HSTq.out.snoc k hrow2 hg2 hB2
                obtain ⟨g, cap, rfl, hgc, hgb, hgl, cells, hcells⟩ := own_form hrow2 (by omega)
                generalize hvo : (fun i => if i = done.length then Value.slice none 0 0 else vo i) = vo1 at hst2
                generalize hvn : (fun i => if i = done.length then Value.slice none 0 0 else vn i) = vn1 at hst2
                have hx0 : openK k none = ⟨k, [], []⟩ := rfl
                rw [← hx0] at hst2
                have HST2 := Lib.hid hst2
                have hsz2 := hst2.bel.size
                clear hrow2 hB2 hg2 hat2 hst2 hvo hvn HSTq HROW hszq hx0 hcells
                obtain ⟨q0, q1, q2⟩ := HST2.out.hks.get g cap (by simp) (i := done.length) (by simp)
                rw [getD_last'] at q0
                have hRo := HST2.out.hks.old done.length (by simp)
                have hRn := HST2.out.hks.new done.length (by simp)
                rw [getD_last'] at hRo hRn
                obtain ⟨Ao, co, hvo, _, _, _⟩ := R_addr hRo
                obtain ⟨An, cn, hvn, _, _, _⟩ := R_addr hRn
                rw [hvo] at q1
                rw [hvn] at q2
                have HVO := Lib.hid hvo
                have HVN := Lib.hid hvn
                have HRO := Lib.hid hRo
                have HRN := Lib.hid hRn
                clear hvo hvn hRo hRn
                have hcost := open_cost k none
                have hfo : (openK k none).old.length ≤ 1200 := by have := HBND.out; omega
                have hfn : (openK k none).new.length ≤ 1200 := by have := HBND.out; omega
                have HFO := Lib.hid (And.intro hfo hfn)
                clear hcost hfo hfn
                have HOP := Lib.hid (show openK k none = openK k none from rfl)
                generalize hop : openK k none = op at *
                go_wp2_with fail
                generalize hcur : (none : Option (Hk ByteArray)) = cur at *
                have hopc : op = openK k cur := hop.symm
                clear HOP hop hcur
                have HOP := Lib.hid hopc
                clear hopc q0 q1 q2
                obtain ⟨W, hW⟩ : ∃ W, W = w2.alloc (.cells #[.int .i64 (op.pos : Int), .slice Ao op.old.length co, .slice An op.new.length cn] 24) := ⟨_, rfl⟩
                have hBW : Below w2.heap.size w2 W := by rw [hW]; exact (Below.refl _ _).alloc (Nat.le_refl _) _
                have hhb : W.heap[w2.heap.size]? = some (.cells #[.int .i64 (op.pos : Int), .slice Ao op.old.length co, .slice An op.new.length cn] 24 (0, 0)) := by rw [hW]; exact heap_alloc_new _ _
                rw [← hW]
                have hstW := HST2.out.below hsz2 hBW
                have hRoW := Kd.R_below HRO.out hBW
                have hRnW := Kd.R_below HRN.out hBW
                generalize hhbe : w2.heap.size = hb at *
                have hgh : g ≠ hb := by omega
                have hbs : w.heap.size ≤ hb := by omega
                clear hW hBW hhbe HST2 HRO HRN
                have HSTW := Lib.hid hstW
                have HHB := Lib.hid hhb
                have HROW := Lib.hid hRoW
                have HRNW := Lib.hid hRnW
                clear hstW hhb hRoW hRnW
                clear x1 x2 y1 y2 l1 l2 f1 f2 b1 hb1 hb0
                obtain ⟨x1, x2, l1, _⟩ := HSTW.out.tab.get kg kc rfl (i := i + 1) (k := k) (by omega) (by omega)
                obtain ⟨y1, y2, l2, _⟩ := HSTW.out.tab.get kg kc rfl (i := i) (k := k + 1) (by omega) (by omega)
                obtain ⟨_, _, _, _, _, lg2, _⟩ := own_form HSTW.out.tab.rows (by omega)
                unfold int64 at x2 y2
                have hgoes := goes_in (a := a) (b := b) (i := i) (k := k) (by rw [HNA.out]; exact hin) (by rw [HNB.out]; exact hkn)
                generalize LL a b (i + 1) k = X2 at x2 hgoes
                generalize LL a b i (k + 1) = Y2 at y2 hgoes
                generalize blk (i + 1) = blk1 at x1 x2 l1
                generalize blk i = blk0 at y1 y2 l2
                have dk2 : ¬ nb ≤ k := by omega
                have dk3 : ¬ (k : Int) ≥ (nb : Int) := by omega
                by_cases hXY2 : Y2 ≤ X2
                · have hgo : goesB a b i k = true := by rw [hgoes]; exact decide_eq_true hXY2
                  have hge : decide ((X2 : Int) ≥ (Y2 : Int)) = true := decide_eq_true (by omega)
                  clear hgoes
                  go_wp2_with fail
                  go_quiet (fail)
                  have HSTW2 := Lib.hid (HSTW.out.below HSTW.out.bel.size (below_drewN0 W nq))
                  have HHB2 := Lib.hid (show (W.drewN nq).heap[hb]? = some (.cells #[.int .i64 (op.pos : Int), .slice Ao op.old.length co, .slice An op.new.length cn] 24 (0, 0)) from HHB.out)
                  have HR2 := Lib.hid (Kd.R_drewN HROW.out nq)
                  generalize W.drewN nq = W2 at *
                  clear HSTW HHB HROW HRNW
                  obtain ⟨h1, hat5⟩ := at_del HAT.out (by rw [HNA.out]; exact hi) (by rw [HNB.out]; exact hk) (by rw [HNA.out, HNB.out]; exact HOR.out) hkeep hgo
                  rw [takeOut_open, ← HOP.out] at hat5
                  have h1n : i < na := by rw [← HNA.out]; exact h1
                  clear hgo hkeep
                  try clear x1 x2 y1 y2 l1 l2 lg2 hge hXY2
                  try clear ca1 cb1
                  obtain ⟨ae, hae, ca6⟩ := Kd.at_string (Kd.C_below HA.out HSTW2.out.bel) (i : Int) (by omega) (by omega)
                  rw [rdOf_nat _ _ _ h1, Int.toNat_natCast] at ca6
                  obtain rfl := Option.some.inj hae
                  obtain ⟨x, hx⟩ : ∃ x, x = a[i] := ⟨_, rfl⟩
                  rw [← hx] at ca6 hat5
                  have HAT6 := Lib.hid hat5
                  clear hx hat5
                  obtain ⟨k0, k1, k2⟩ := head_cells HHB2.out
                  have kl := blk_lt HHB2.out
                  go_upto_region 16 with (fail)
                  have hS := And.intro (Below.refl W2.heap.size W2) (And.intro k1 ca6)
                  clear k0 k1 k2 ca6
                  refine start_ (S := fun w' => Below W2.heap.size W2 w' ∧ w'.cell? ⟨hb, 1, none⟩ = some (.slice Ao op.old.length co) ∧ w'.cell? (ad.add i) = some (.string x)) (ds := [7, 8, 9]) (n := 10) #[false, false, false, false, false, false, false, false, false, false] rfl rfl rfl ?hS0 (fun hHeld => ?hrun)
                  case hS0 => exact keep2 hS ((Below.refl _ _).drew)
                  case hrun =>
                    refine pure_ (i := 0) (N := some 111) (v := ?_) (a' := ?_) #[true, false, false, false, false, false, false, false, false, false] rfl rfl (by kernel_rfl) (fun _ _ _ h => h) (Or.inl ⟨by rfl, ?_⟩) ?_ ?_
                    rotate_left
                    · intro w'
                      go_simp
                      first | done | with_reducible rfl
                    rotate_left
                    · simp only [Act.put, List.setIfInBounds_toArray, List.set_cons_zero, List.set_cons_succ, i64_w, i32_w]
                      rfl
                    refine take_ (i := 1) (N := some 112) (v := ?_) (a' := ?_) #[true, true, false, false, false, false, false, false, false, false] rfl rfl (by kernel_rfl) (fun _ _ _ h => h) (Or.inl ⟨by rfl, ?_⟩) hHeld ?_ ?_
                    rotate_left
                    · rintro w' ⟨hbe, s0, s1⟩
                      go_simp
                      first | done | with_reducible rfl
                    rotate_left
                    · simp only [Act.put, List.setIfInBounds_toArray, List.set_cons_zero, List.set_cons_succ, i64_w, i32_w]
                      rfl
                    refine pure_ (i := 2) (N := some 113) (v := ?_) (a' := ?_) #[true, true, true, false, false, false, false, false, false, false] rfl rfl (by kernel_rfl) (fun _ _ _ h => h) (Or.inl ⟨by rfl, ?_⟩) ?_ ?_
                    rotate_left
                    · intro w'
                      go_simp
                      first | done | with_reducible rfl
                    rotate_left
                    · simp only [Act.put, List.setIfInBounds_toArray, List.set_cons_zero, List.set_cons_succ, i64_w, i32_w]
                      rfl
                    refine pure_ (i := 3) (N := some 114) (v := ?_) (a' := ?_) #[true, true, true, true, false, false, false, false, false, false] rfl rfl (by kernel_rfl) (fun _ _ _ h => h) (Or.inl ⟨by rfl, ?_⟩) ?_ ?_
                    rotate_left
                    · intro w'
                      go_simp
                      first | done | with_reducible rfl
                    rotate_left
                    · simp only [Act.put, List.setIfInBounds_toArray, List.set_cons_zero, List.set_cons_succ, i64_w, i32_w]
                      rfl
                    refine pure_ (i := 4) (N := some 115) (v := ?_) (a' := ?_) #[true, true, true, true, true, false, false, false, false, false] rfl rfl (by kernel_rfl) (fun _ _ _ h => h) (Or.inl ⟨by rfl, ?_⟩) ?_ ?_
                    rotate_left
                    · intro w'
                      go_simp
                      first | done | with_reducible rfl
                    rotate_left
                    · simp only [Act.put, List.setIfInBounds_toArray, List.set_cons_zero, List.set_cons_succ, i64_w, i32_w]
                      rfl
                    refine take_ (i := 5) (N := some 116) (v := ?_) (a' := ?_) #[true, true, true, true, true, true, false, false, false, false] rfl rfl (by kernel_rfl) (fun _ _ _ h => h) (Or.inl ⟨by rfl, ?_⟩) hHeld ?_ ?_
                    rotate_left
                    · rintro w' ⟨hbe, s0, s1⟩
                      go_simp
                      first | done | with_reducible rfl
                    rotate_left
                    · simp only [Act.put, List.setIfInBounds_toArray, List.set_cons_zero, List.set_cons_succ, i64_w, i32_w]
                      rfl
                    refine one_ (i := 6) (N := some 117) #[true, true, true, true, true, true, true, false, false, false] rfl rfl (by kernel_rfl) (by decide) (fun K hK => ?_)
                    refine value_ (by rfl) rfl (by go_simp; first | rfl | exact ⟨rfl, rfl⟩) ?_
                    refine hK.out _ _ (keep2 hHeld (below_alloc (Below.refl _ _) _)) (fun hHeld1 => ?_)
                    clear hK K
                    refine norm_ (a' := ?_) ?_ ?_
                    rotate_left
                    · show Act.put _ (some 117) _ = _
                      simp only [Act.put, List.setIfInBounds_toArray, List.set_cons_zero, List.set_cons_succ, i64_w, i32_w]
                      rfl
                    refine tail_list 7 (t := [7, 8, 9]) (fuel := 0) rfl rfl rfl (by kernel_rfl) (by decide) ?_
                    clear hS hHeld hHeld1
                    obtain ⟨W0, hW0⟩ : ∃ W0, W0 = W2.drew := ⟨_, rfl⟩
                    have hW1 : (W2.alloc (.cells #[.string x] 9)).drew = W0.alloc (.cells #[.string x] 9) := by rw [hW0]; rfl
                    rw [hW1]
                    have HSZ0 := Lib.hid (show W0.heap.size = W2.heap.size by rw [hW0]; rfl)
                    have HST7 := Lib.hid (show RSt w W0 w.heap.size kg kc na nb a b blk done (some op) (.slice (some ⟨g, 0, none⟩) (done.length + 1) cap) vo1 vn1 by rw [hW0]; exact HSTW2.out.below HSTW2.out.bel.size (Below.refl _ _).drew)
                    have HR7 := Lib.hid (show Kd.string.R 9 W0 w.heap.size (fun _ => True) (vo1 done.length) op.old by rw [hW0]; exact Kd.R_drew HR2.out)
                    have HC7 := Lib.hid (show W0.heap[hb]? = some (.cells #[.int .i64 (op.pos : Int), .slice Ao op.old.length co, .slice An op.new.length cn] 24 (0, 0)) by rw [hW0]; exact HHB2.out)
                    clear hW1 hW0 HSTW2 HR2 HHB2 kl
                    show wpList _ _ _ (_ :: _) _ _
                    refine (Kd.R_append Kd.string (w0 := w) (W := W0) w.heap.size rfl _ _ 22 9 (.string ⟨#[]⟩) 16 rfl Try.underlying22 infoS rfl (by decide) (by decide) (vo1 done.length) op.old x [.string x] (fun _ => True) (fun _ => False) (by rw [HVO.out]; rfl) (by rw [HSZ0.out]; rfl) rfl (fun _ h => h.elim) (fun _ _ => trivial) HR7.out HST7.out.bel HST7.out.bel.size (by have := HFO.out; omega) ?_)
                    intro v1 w7 hR7 hB7 hg7 hat7
                    have hst7 := HST7.out.whole_old HC7.out hgh hbs hR7 hB7 hg7 hat7
                    obtain ⟨Av, cv, rfl, _, _, _⟩ := R_addr hR7
                    have el : (op.old ++ [x]).length = op.old.length + 1 := by simp
                    rw [el] at hst7 hR7 ⊢
                    rw [HVN.out] at hst7
                    clear el
                    have hc7 : w7.heap[hb]? = some (.cells #[.int .i64 (op.pos : Int), .slice Ao op.old.length co, .slice An op.new.length cn] 24 (0, 0)) := (hg7.block hb (blk_lt HC7.out) (Kd.R_ne HR7.out HC7.out (by decide))).trans HC7.out
                    have hrw := HST7.out.hks.rows
                    rw [show (done ++ (some op).toList).length = done.length + 1 by simp] at hrw
                    obtain ⟨g1, c1, he1, hcp1, _, _, cells6, hcells6⟩ := own_form hrw (by omega)
                    have hgg : g1 = g := by injection he1 with he1; injection he1 with he1; injection he1 with he1; exact he1.symm
                    subst hgg
                    have hcells7 : w7.heap[g1]? = some (.cells cells6 24 (0, 0)) := (hg7.block g1 (blk_lt hcells6) (Kd.R_ne HR7.out hcells6 (by decide))).trans hcells6
                    obtain ⟨q0, q1, q2⟩ := HST7.out.hks.get g1 cap (by simp) (i := done.length) (by simp)
                    rw [blk_cell hcells6, ← blk_cell hcells7] at q0 q1 q2
                    have p0 := blk_frozen hcells7 (done.length * 3)
                    have p1 := blk_frozen hcells7 (done.length * 3 + 1)
                    have p2 := blk_frozen hcells7 (done.length * 3 + 2)
                    have lg7 := blk_lt hcells7
                    obtain ⟨k0, k1, k2⟩ := head_cells hc7
                    have kl := blk_lt hc7
                    have kf := blk_frozen hc7 1
                    have hgh2 : hb ≠ g1 := fun e => hgh e.symm
                    have HST8 := Lib.hid hst7
                    clear hst7 hR7 hB7 hg7 hat7 hcells7 hc7 HST7 HR7 HC7 hrw he1 hcells6
                    go_wp2_with fail
                    exact ⟨⟨i + 1, k, done, some _, _, _, by omega, by omega, by go_num, by go_num, rfl, HST8.out, HAT6.out⟩, by simp [intOf]; omega⟩
                · have hgo : goesB a b i k = false := by rw [hgoes]; exact decide_eq_false hXY2
                  have hge : decide ((X2 : Int) ≥ (Y2 : Int)) = false := decide_eq_false (by omega)
                  clear hgoes
                  go_wp2_with fail
                  go_quiet (fail)
                  have HSTW2 := Lib.hid (HSTW.out.below HSTW.out.bel.size (below_drewN0 W nq))
                  have HHB2 := Lib.hid (show (W.drewN nq).heap[hb]? = some (.cells #[.int .i64 (op.pos : Int), .slice Ao op.old.length co, .slice An op.new.length cn] 24 (0, 0)) from HHB.out)
                  have HR2 := Lib.hid (Kd.R_drewN HRNW.out nq)
                  generalize W.drewN nq = W2 at *
                  clear HSTW HHB HROW HRNW
                  obtain ⟨h2, hat5⟩ := at_ins HAT.out (by rw [HNA.out]; exact hi) (by rw [HNB.out]; exact hk) (by rw [HNA.out, HNB.out]; exact HOR.out) hkeep hgo
                  rw [putIn_open, ← HOP.out] at hat5
                  have h1n : k < nb := by rw [← HNB.out]; exact h2
                  clear hgo hkeep
                  try clear x1 x2 y1 y2 l1 l2 lg2 hge hXY2
                  try clear ca1 cb1
                  obtain ⟨ae, hae, ca6⟩ := Kd.at_string (Kd.C_below HB.out HSTW2.out.bel) (k : Int) (by omega) (by omega)
                  rw [rdOf_nat _ _ _ h2, Int.toNat_natCast] at ca6
                  obtain rfl := Option.some.inj hae
                  obtain ⟨x, hx⟩ : ∃ x, x = b[k] := ⟨_, rfl⟩
                  rw [← hx] at ca6 hat5
                  have HAT6 := Lib.hid hat5
                  clear hx hat5
                  obtain ⟨k0, k1, k2⟩ := head_cells HHB2.out
                  have kl := blk_lt HHB2.out
                  go_upto_region 18 with (fail)
                  have hS := And.intro (Below.refl W2.heap.size W2) (And.intro k2 ca6)
                  clear k0 k1 k2 ca6
                  refine start_ (S := fun w' => Below W2.heap.size W2 w' ∧ w'.cell? ⟨hb, 2, none⟩ = some (.slice An op.new.length cn) ∧ w'.cell? (bd.add k) = some (.string x)) (ds := [7, 8, 9]) (n := 10) #[false, false, false, false, false, false, false, false, false, false] rfl rfl rfl ?hS0 (fun hHeld => ?hrun)
                  case hS0 => exact keep2 hS ((Below.refl _ _).drew)
                  case hrun =>
                    refine pure_ (i := 0) (N := some 122) (v := ?_) (a' := ?_) #[true, false, false, false, false, false, false, false, false, false] rfl rfl (by kernel_rfl) (fun _ _ _ h => h) (Or.inl ⟨by rfl, ?_⟩) ?_ ?_
                    rotate_left
                    · intro w'
                      go_simp
                      first | done | with_reducible rfl
                    rotate_left
                    · simp only [Act.put, List.setIfInBounds_toArray, List.set_cons_zero, List.set_cons_succ, i64_w, i32_w]
                      rfl
                    refine take_ (i := 1) (N := some 123) (v := ?_) (a' := ?_) #[true, true, false, false, false, false, false, false, false, false] rfl rfl (by kernel_rfl) (fun _ _ _ h => h) (Or.inl ⟨by rfl, ?_⟩) hHeld ?_ ?_
                    rotate_left
                    · rintro w' ⟨hbe, s0, s1⟩
                      go_simp
                      first | done | with_reducible rfl
                    rotate_left
                    · simp only [Act.put, List.setIfInBounds_toArray, List.set_cons_zero, List.set_cons_succ, i64_w, i32_w]
                      rfl
                    refine pure_ (i := 2) (N := some 124) (v := ?_) (a' := ?_) #[true, true, true, false, false, false, false, false, false, false] rfl rfl (by kernel_rfl) (fun _ _ _ h => h) (Or.inl ⟨by rfl, ?_⟩) ?_ ?_
                    rotate_left
                    · intro w'
                      go_simp
                      first | done | with_reducible rfl
                    rotate_left
                    · simp only [Act.put, List.setIfInBounds_toArray, List.set_cons_zero, List.set_cons_succ, i64_w, i32_w]
                      rfl
                    refine pure_ (i := 3) (N := some 125) (v := ?_) (a' := ?_) #[true, true, true, true, false, false, false, false, false, false] rfl rfl (by kernel_rfl) (fun _ _ _ h => h) (Or.inl ⟨by rfl, ?_⟩) ?_ ?_
                    rotate_left
                    · intro w'
                      go_simp
                      first | done | with_reducible rfl
                    rotate_left
                    · simp only [Act.put, List.setIfInBounds_toArray, List.set_cons_zero, List.set_cons_succ, i64_w, i32_w]
                      rfl
                    refine pure_ (i := 4) (N := some 126) (v := ?_) (a' := ?_) #[true, true, true, true, true, false, false, false, false, false] rfl rfl (by kernel_rfl) (fun _ _ _ h => h) (Or.inl ⟨by rfl, ?_⟩) ?_ ?_
                    rotate_left
                    · intro w'
                      go_simp
                      first | done | with_reducible rfl
                    rotate_left
                    · simp only [Act.put, List.setIfInBounds_toArray, List.set_cons_zero, List.set_cons_succ, i64_w, i32_w]
                      rfl
                    refine take_ (i := 5) (N := some 127) (v := ?_) (a' := ?_) #[true, true, true, true, true, true, false, false, false, false] rfl rfl (by kernel_rfl) (fun _ _ _ h => h) (Or.inl ⟨by rfl, ?_⟩) hHeld ?_ ?_
                    rotate_left
                    · rintro w' ⟨hbe, s0, s1⟩
                      go_simp
                      first | done | with_reducible rfl
                    rotate_left
                    · simp only [Act.put, List.setIfInBounds_toArray, List.set_cons_zero, List.set_cons_succ, i64_w, i32_w]
                      rfl
                    refine one_ (i := 6) (N := some 128) #[true, true, true, true, true, true, true, false, false, false] rfl rfl (by kernel_rfl) (by decide) (fun K hK => ?_)
                    refine value_ (by rfl) rfl (by go_simp; first | rfl | exact ⟨rfl, rfl⟩) ?_
                    refine hK.out _ _ (keep2 hHeld (below_alloc (Below.refl _ _) _)) (fun hHeld1 => ?_)
                    clear hK K
                    refine norm_ (a' := ?_) ?_ ?_
                    rotate_left
                    · show Act.put _ (some 128) _ = _
                      simp only [Act.put, List.setIfInBounds_toArray, List.set_cons_zero, List.set_cons_succ, i64_w, i32_w]
                      rfl
                    refine tail_list 7 (t := [7, 8, 9]) (fuel := 0) rfl rfl rfl (by kernel_rfl) (by decide) ?_
                    clear hS hHeld hHeld1
                    obtain ⟨W0, hW0⟩ : ∃ W0, W0 = W2.drew := ⟨_, rfl⟩
                    have hW1 : (W2.alloc (.cells #[.string x] 9)).drew = W0.alloc (.cells #[.string x] 9) := by rw [hW0]; rfl
                    rw [hW1]
                    have HSZ0 := Lib.hid (show W0.heap.size = W2.heap.size by rw [hW0]; rfl)
                    have HST7 := Lib.hid (show RSt w W0 w.heap.size kg kc na nb a b blk done (some op) (.slice (some ⟨g, 0, none⟩) (done.length + 1) cap) vo1 vn1 by rw [hW0]; exact HSTW2.out.below HSTW2.out.bel.size (Below.refl _ _).drew)
                    have HR7 := Lib.hid (show Kd.string.R 9 W0 w.heap.size (fun _ => True) (vn1 done.length) op.new by rw [hW0]; exact Kd.R_drew HR2.out)
                    have HC7 := Lib.hid (show W0.heap[hb]? = some (.cells #[.int .i64 (op.pos : Int), .slice Ao op.old.length co, .slice An op.new.length cn] 24 (0, 0)) by rw [hW0]; exact HHB2.out)
                    clear hW1 hW0 HSTW2 HR2 HHB2 kl
                    show wpList _ _ _ (_ :: _) _ _
                    refine (Kd.R_append Kd.string (w0 := w) (W := W0) w.heap.size rfl _ _ 22 9 (.string ⟨#[]⟩) 16 rfl Try.underlying22 infoS rfl (by decide) (by decide) (vn1 done.length) op.new x [.string x] (fun _ => True) (fun _ => False) (by rw [HVN.out]; rfl) (by rw [HSZ0.out]; rfl) rfl (fun _ h => h.elim) (fun _ _ => trivial) HR7.out HST7.out.bel HST7.out.bel.size (by have := HFO.out; omega) ?_)
                    intro v1 w7 hR7 hB7 hg7 hat7
                    have hst7 := HST7.out.whole_new HC7.out hgh hbs hR7 hB7 hg7 hat7
                    obtain ⟨Av, cv, rfl, _, _, _⟩ := R_addr hR7
                    have el : (op.new ++ [x]).length = op.new.length + 1 := by simp
                    rw [el] at hst7 hR7 ⊢
                    rw [HVO.out] at hst7
                    clear el
                    have hc7 : w7.heap[hb]? = some (.cells #[.int .i64 (op.pos : Int), .slice Ao op.old.length co, .slice An op.new.length cn] 24 (0, 0)) := (hg7.block hb (blk_lt HC7.out) (Kd.R_ne HR7.out HC7.out (by decide))).trans HC7.out
                    have hrw := HST7.out.hks.rows
                    rw [show (done ++ (some op).toList).length = done.length + 1 by simp] at hrw
                    obtain ⟨g1, c1, he1, hcp1, _, _, cells6, hcells6⟩ := own_form hrw (by omega)
                    have hgg : g1 = g := by injection he1 with he1; injection he1 with he1; injection he1 with he1; exact he1.symm
                    subst hgg
                    have hcells7 : w7.heap[g1]? = some (.cells cells6 24 (0, 0)) := (hg7.block g1 (blk_lt hcells6) (Kd.R_ne HR7.out hcells6 (by decide))).trans hcells6
                    obtain ⟨q0, q1, q2⟩ := HST7.out.hks.get g1 cap (by simp) (i := done.length) (by simp)
                    rw [blk_cell hcells6, ← blk_cell hcells7] at q0 q1 q2
                    have p0 := blk_frozen hcells7 (done.length * 3)
                    have p1 := blk_frozen hcells7 (done.length * 3 + 1)
                    have p2 := blk_frozen hcells7 (done.length * 3 + 2)
                    have lg7 := blk_lt hcells7
                    obtain ⟨k0, k1, k2⟩ := head_cells hc7
                    have kl := blk_lt hc7
                    have kf := blk_frozen hc7 2
                    have hgh2 : hb ≠ g1 := fun e => hgh e.symm
                    have HST8 := Lib.hid hst7
                    clear hst7 hR7 hB7 hg7 hat7 hcells7 hc7 HST7 HR7 HC7 hrw he1 hcells6
                    go_wp2_with fail
                    exact ⟨⟨i, k + 1, done, some _, _, _, by omega, by omega, by go_num, by go_num, rfl, HST8.out, HAT6.out⟩, by simp [intOf]; omega⟩
              | some x0 =>
                have hbn := HBND.out
                have hl5 : done.length < 100000 := by omega
                clear hbn
                have hrow2 := HSTq.out.hks.rows
                rw [show (done ++ (some x0).toList).length = done.length + 1 by simp] at hrow2
                obtain ⟨g, cap, rfl, hgc, hgb, hgl, cells, hcells⟩ := own_form hrow2 (by omega)
                have hx0 : openK k (some x0) = x0 := rfl
                have HST2 := Lib.hid (show RSt w wq w.heap.size kg kc na nb a b blk done (some (openK k (some x0))) (.slice (some ⟨g, 0, none⟩) (done.length + 1) cap) vo vn from HSTq.out)
                have hsz2 := hszq
                generalize wq = w2 at *
                generalize vo = vo1 at *
                generalize vn = vn1 at *
                clear hrow2 HSTq hszq hx0 hcells
                obtain ⟨q0, q1, q2⟩ := HST2.out.hks.get g cap (by simp) (i := done.length) (by simp)
                rw [getD_last'] at q0
                have hRo := HST2.out.hks.old done.length (by simp)
                have hRn := HST2.out.hks.new done.length (by simp)
                rw [getD_last'] at hRo hRn
                obtain ⟨Ao, co, hvo, _, _, _⟩ := R_addr hRo
                obtain ⟨An, cn, hvn, _, _, _⟩ := R_addr hRn
                rw [hvo] at q1
                rw [hvn] at q2
                have HVO := Lib.hid hvo
                have HVN := Lib.hid hvn
                have HRO := Lib.hid hRo
                have HRN := Lib.hid hRn
                clear hvo hvn hRo hRn
                have hcost := open_cost k (some x0)
                have hfo : (openK k (some x0)).old.length ≤ 1200 := by have := HBND.out; omega
                have hfn : (openK k (some x0)).new.length ≤ 1200 := by have := HBND.out; omega
                have HFO := Lib.hid (And.intro hfo hfn)
                clear hcost hfo hfn
                have HOP := Lib.hid (show openK k (some x0) = openK k (some x0) from rfl)
                generalize hop : openK k (some x0) = op at *
                go_wp2_with fail
                generalize hcur : some x0 = cur at *
                have hopc : op = openK k cur := hop.symm
                clear HOP hop hcur
                have HOP := Lib.hid hopc
                clear hopc q0 q1 q2
                obtain ⟨W, hW⟩ : ∃ W, W = w2.alloc (.cells #[.int .i64 (op.pos : Int), .slice Ao op.old.length co, .slice An op.new.length cn] 24) := ⟨_, rfl⟩
                have hBW : Below w2.heap.size w2 W := by rw [hW]; exact (Below.refl _ _).alloc (Nat.le_refl _) _
                have hhb : W.heap[w2.heap.size]? = some (.cells #[.int .i64 (op.pos : Int), .slice Ao op.old.length co, .slice An op.new.length cn] 24 (0, 0)) := by rw [hW]; exact heap_alloc_new _ _
                rw [← hW]
                have hstW := HST2.out.below hsz2 hBW
                have hRoW := Kd.R_below HRO.out hBW
                have hRnW := Kd.R_below HRN.out hBW
                generalize hhbe : w2.heap.size = hb at *
                have hgh : g ≠ hb := by omega
                have hbs : w.heap.size ≤ hb := by omega
                clear hW hBW hhbe HST2 HRO HRN
                have HSTW := Lib.hid hstW
                have HHB := Lib.hid hhb
                have HROW := Lib.hid hRoW
                have HRNW := Lib.hid hRnW
                clear hstW hhb hRoW hRnW
                clear x1 x2 y1 y2 l1 l2 f1 f2 b1 hb1 hb0
                obtain ⟨x1, x2, l1, _⟩ := HSTW.out.tab.get kg kc rfl (i := i + 1) (k := k) (by omega) (by omega)
                obtain ⟨y1, y2, l2, _⟩ := HSTW.out.tab.get kg kc rfl (i := i) (k := k + 1) (by omega) (by omega)
                obtain ⟨_, _, _, _, _, lg2, _⟩ := own_form HSTW.out.tab.rows (by omega)
                unfold int64 at x2 y2
                have hgoes := goes_in (a := a) (b := b) (i := i) (k := k) (by rw [HNA.out]; exact hin) (by rw [HNB.out]; exact hkn)
                generalize LL a b (i + 1) k = X2 at x2 hgoes
                generalize LL a b i (k + 1) = Y2 at y2 hgoes
                generalize blk (i + 1) = blk1 at x1 x2 l1
                generalize blk i = blk0 at y1 y2 l2
                have dk2 : ¬ nb ≤ k := by omega
                have dk3 : ¬ (k : Int) ≥ (nb : Int) := by omega
                by_cases hXY2 : Y2 ≤ X2
                · have hgo : goesB a b i k = true := by rw [hgoes]; exact decide_eq_true hXY2
                  have hge : decide ((X2 : Int) ≥ (Y2 : Int)) = true := decide_eq_true (by omega)
                  clear hgoes
                  go_wp2_with fail
                  go_quiet (fail)
                  have HSTW2 := Lib.hid (HSTW.out.below HSTW.out.bel.size (below_drewN0 W nq))
                  have HHB2 := Lib.hid (show (W.drewN nq).heap[hb]? = some (.cells #[.int .i64 (op.pos : Int), .slice Ao op.old.length co, .slice An op.new.length cn] 24 (0, 0)) from HHB.out)
                  have HR2 := Lib.hid (Kd.R_drewN HROW.out nq)
                  generalize W.drewN nq = W2 at *
                  clear HSTW HHB HROW HRNW
                  obtain ⟨h1, hat5⟩ := at_del HAT.out (by rw [HNA.out]; exact hi) (by rw [HNB.out]; exact hk) (by rw [HNA.out, HNB.out]; exact HOR.out) hkeep hgo
                  rw [takeOut_open, ← HOP.out] at hat5
                  have h1n : i < na := by rw [← HNA.out]; exact h1
                  clear hgo hkeep
                  try clear x1 x2 y1 y2 l1 l2 lg2 hge hXY2
                  try clear ca1 cb1
                  obtain ⟨ae, hae, ca6⟩ := Kd.at_string (Kd.C_below HA.out HSTW2.out.bel) (i : Int) (by omega) (by omega)
                  rw [rdOf_nat _ _ _ h1, Int.toNat_natCast] at ca6
                  obtain rfl := Option.some.inj hae
                  obtain ⟨x, hx⟩ : ∃ x, x = a[i] := ⟨_, rfl⟩
                  rw [← hx] at ca6 hat5
                  have HAT6 := Lib.hid hat5
                  clear hx hat5
                  obtain ⟨k0, k1, k2⟩ := head_cells HHB2.out
                  have kl := blk_lt HHB2.out
                  go_upto_region 16 with (fail)
                  have hS := And.intro (Below.refl W2.heap.size W2) (And.intro k1 ca6)
                  clear k0 k1 k2 ca6
                  refine start_ (S := fun w' => Below W2.heap.size W2 w' ∧ w'.cell? ⟨hb, 1, none⟩ = some (.slice Ao op.old.length co) ∧ w'.cell? (ad.add i) = some (.string x)) (ds := [7, 8, 9]) (n := 10) #[false, false, false, false, false, false, false, false, false, false] rfl rfl rfl ?hS0 (fun hHeld => ?hrun)
                  case hS0 => exact keep2 hS ((Below.refl _ _).drew)
                  case hrun =>
                    refine pure_ (i := 0) (N := some 111) (v := ?_) (a' := ?_) #[true, false, false, false, false, false, false, false, false, false] rfl rfl (by kernel_rfl) (fun _ _ _ h => h) (Or.inl ⟨by rfl, ?_⟩) ?_ ?_
                    rotate_left
                    · intro w'
                      go_simp
                      first | done | with_reducible rfl
                    rotate_left
                    · simp only [Act.put, List.setIfInBounds_toArray, List.set_cons_zero, List.set_cons_succ, i64_w, i32_w]
                      rfl
                    refine take_ (i := 1) (N := some 112) (v := ?_) (a' := ?_) #[true, true, false, false, false, false, false, false, false, false] rfl rfl (by kernel_rfl) (fun _ _ _ h => h) (Or.inl ⟨by rfl, ?_⟩) hHeld ?_ ?_
                    rotate_left
                    · rintro w' ⟨hbe, s0, s1⟩
                      go_simp
                      first | done | with_reducible rfl
                    rotate_left
                    · simp only [Act.put, List.setIfInBounds_toArray, List.set_cons_zero, List.set_cons_succ, i64_w, i32_w]
                      rfl
                    refine pure_ (i := 2) (N := some 113) (v := ?_) (a' := ?_) #[true, true, true, false, false, false, false, false, false, false] rfl rfl (by kernel_rfl) (fun _ _ _ h => h) (Or.inl ⟨by rfl, ?_⟩) ?_ ?_
                    rotate_left
                    · intro w'
                      go_simp
                      first | done | with_reducible rfl
                    rotate_left
                    · simp only [Act.put, List.setIfInBounds_toArray, List.set_cons_zero, List.set_cons_succ, i64_w, i32_w]
                      rfl
                    refine pure_ (i := 3) (N := some 114) (v := ?_) (a' := ?_) #[true, true, true, true, false, false, false, false, false, false] rfl rfl (by kernel_rfl) (fun _ _ _ h => h) (Or.inl ⟨by rfl, ?_⟩) ?_ ?_
                    rotate_left
                    · intro w'
                      go_simp
                      first | done | with_reducible rfl
                    rotate_left
                    · simp only [Act.put, List.setIfInBounds_toArray, List.set_cons_zero, List.set_cons_succ, i64_w, i32_w]
                      rfl
                    refine pure_ (i := 4) (N := some 115) (v := ?_) (a' := ?_) #[true, true, true, true, true, false, false, false, false, false] rfl rfl (by kernel_rfl) (fun _ _ _ h => h) (Or.inl ⟨by rfl, ?_⟩) ?_ ?_
                    rotate_left
                    · intro w'
                      go_simp
                      first | done | with_reducible rfl
                    rotate_left
                    · simp only [Act.put, List.setIfInBounds_toArray, List.set_cons_zero, List.set_cons_succ, i64_w, i32_w]
                      rfl
                    refine take_ (i := 5) (N := some 116) (v := ?_) (a' := ?_) #[true, true, true, true, true, true, false, false, false, false] rfl rfl (by kernel_rfl) (fun _ _ _ h => h) (Or.inl ⟨by rfl, ?_⟩) hHeld ?_ ?_
                    rotate_left
                    · rintro w' ⟨hbe, s0, s1⟩
                      go_simp
                      first | done | with_reducible rfl
                    rotate_left
                    · simp only [Act.put, List.setIfInBounds_toArray, List.set_cons_zero, List.set_cons_succ, i64_w, i32_w]
                      rfl
                    refine one_ (i := 6) (N := some 117) #[true, true, true, true, true, true, true, false, false, false] rfl rfl (by kernel_rfl) (by decide) (fun K hK => ?_)
                    refine value_ (by rfl) rfl (by go_simp; first | rfl | exact ⟨rfl, rfl⟩) ?_
                    refine hK.out _ _ (keep2 hHeld (below_alloc (Below.refl _ _) _)) (fun hHeld1 => ?_)
                    clear hK K
                    refine norm_ (a' := ?_) ?_ ?_
                    rotate_left
                    · show Act.put _ (some 117) _ = _
                      simp only [Act.put, List.setIfInBounds_toArray, List.set_cons_zero, List.set_cons_succ, i64_w, i32_w]
                      rfl
                    refine tail_list 7 (t := [7, 8, 9]) (fuel := 0) rfl rfl rfl (by kernel_rfl) (by decide) ?_
                    clear hS hHeld hHeld1
                    obtain ⟨W0, hW0⟩ : ∃ W0, W0 = W2.drew := ⟨_, rfl⟩
                    have hW1 : (W2.alloc (.cells #[.string x] 9)).drew = W0.alloc (.cells #[.string x] 9) := by rw [hW0]; rfl
                    rw [hW1]
                    have HSZ0 := Lib.hid (show W0.heap.size = W2.heap.size by rw [hW0]; rfl)
                    have HST7 := Lib.hid (show RSt w W0 w.heap.size kg kc na nb a b blk done (some op) (.slice (some ⟨g, 0, none⟩) (done.length + 1) cap) vo1 vn1 by rw [hW0]; exact HSTW2.out.below HSTW2.out.bel.size (Below.refl _ _).drew)
                    have HR7 := Lib.hid (show Kd.string.R 9 W0 w.heap.size (fun _ => True) (vo1 done.length) op.old by rw [hW0]; exact Kd.R_drew HR2.out)
                    have HC7 := Lib.hid (show W0.heap[hb]? = some (.cells #[.int .i64 (op.pos : Int), .slice Ao op.old.length co, .slice An op.new.length cn] 24 (0, 0)) by rw [hW0]; exact HHB2.out)
                    clear hW1 hW0 HSTW2 HR2 HHB2 kl
                    show wpList _ _ _ (_ :: _) _ _
                    refine (Kd.R_append Kd.string (w0 := w) (W := W0) w.heap.size rfl _ _ 22 9 (.string ⟨#[]⟩) 16 rfl Try.underlying22 infoS rfl (by decide) (by decide) (vo1 done.length) op.old x [.string x] (fun _ => True) (fun _ => False) (by rw [HVO.out]; rfl) (by rw [HSZ0.out]; rfl) rfl (fun _ h => h.elim) (fun _ _ => trivial) HR7.out HST7.out.bel HST7.out.bel.size (by have := HFO.out; omega) ?_)
                    intro v1 w7 hR7 hB7 hg7 hat7
                    have hst7 := HST7.out.whole_old HC7.out hgh hbs hR7 hB7 hg7 hat7
                    obtain ⟨Av, cv, rfl, _, _, _⟩ := R_addr hR7
                    have el : (op.old ++ [x]).length = op.old.length + 1 := by simp
                    rw [el] at hst7 hR7 ⊢
                    rw [HVN.out] at hst7
                    clear el
                    have hc7 : w7.heap[hb]? = some (.cells #[.int .i64 (op.pos : Int), .slice Ao op.old.length co, .slice An op.new.length cn] 24 (0, 0)) := (hg7.block hb (blk_lt HC7.out) (Kd.R_ne HR7.out HC7.out (by decide))).trans HC7.out
                    have hrw := HST7.out.hks.rows
                    rw [show (done ++ (some op).toList).length = done.length + 1 by simp] at hrw
                    obtain ⟨g1, c1, he1, hcp1, _, _, cells6, hcells6⟩ := own_form hrw (by omega)
                    have hgg : g1 = g := by injection he1 with he1; injection he1 with he1; injection he1 with he1; exact he1.symm
                    subst hgg
                    have hcells7 : w7.heap[g1]? = some (.cells cells6 24 (0, 0)) := (hg7.block g1 (blk_lt hcells6) (Kd.R_ne HR7.out hcells6 (by decide))).trans hcells6
                    obtain ⟨q0, q1, q2⟩ := HST7.out.hks.get g1 cap (by simp) (i := done.length) (by simp)
                    rw [blk_cell hcells6, ← blk_cell hcells7] at q0 q1 q2
                    have p0 := blk_frozen hcells7 (done.length * 3)
                    have p1 := blk_frozen hcells7 (done.length * 3 + 1)
                    have p2 := blk_frozen hcells7 (done.length * 3 + 2)
                    have lg7 := blk_lt hcells7
                    obtain ⟨k0, k1, k2⟩ := head_cells hc7
                    have kl := blk_lt hc7
                    have kf := blk_frozen hc7 1
                    have hgh2 : hb ≠ g1 := fun e => hgh e.symm
                    have HST8 := Lib.hid hst7
                    clear hst7 hR7 hB7 hg7 hat7 hcells7 hc7 HST7 HR7 HC7 hrw he1 hcells6
                    go_wp2_with fail
                    exact ⟨⟨i + 1, k, done, some _, _, _, by omega, by omega, by go_num, by go_num, rfl, HST8.out, HAT6.out⟩, by simp [intOf]; omega⟩
                · have hgo : goesB a b i k = false := by rw [hgoes]; exact decide_eq_false hXY2
                  have hge : decide ((X2 : Int) ≥ (Y2 : Int)) = false := decide_eq_false (by omega)
                  clear hgoes
                  go_wp2_with fail
                  go_quiet (fail)
                  have HSTW2 := Lib.hid (HSTW.out.below HSTW.out.bel.size (below_drewN0 W nq))
                  have HHB2 := Lib.hid (show (W.drewN nq).heap[hb]? = some (.cells #[.int .i64 (op.pos : Int), .slice Ao op.old.length co, .slice An op.new.length cn] 24 (0, 0)) from HHB.out)
                  have HR2 := Lib.hid (Kd.R_drewN HRNW.out nq)
                  generalize W.drewN nq = W2 at *
                  clear HSTW HHB HROW HRNW
                  obtain ⟨h2, hat5⟩ := at_ins HAT.out (by rw [HNA.out]; exact hi) (by rw [HNB.out]; exact hk) (by rw [HNA.out, HNB.out]; exact HOR.out) hkeep hgo
                  rw [putIn_open, ← HOP.out] at hat5
                  have h1n : k < nb := by rw [← HNB.out]; exact h2
                  clear hgo hkeep
                  try clear x1 x2 y1 y2 l1 l2 lg2 hge hXY2
                  try clear ca1 cb1
                  obtain ⟨ae, hae, ca6⟩ := Kd.at_string (Kd.C_below HB.out HSTW2.out.bel) (k : Int) (by omega) (by omega)
                  rw [rdOf_nat _ _ _ h2, Int.toNat_natCast] at ca6
                  obtain rfl := Option.some.inj hae
                  obtain ⟨x, hx⟩ : ∃ x, x = b[k] := ⟨_, rfl⟩
                  rw [← hx] at ca6 hat5
                  have HAT6 := Lib.hid hat5
                  clear hx hat5
                  obtain ⟨k0, k1, k2⟩ := head_cells HHB2.out
                  have kl := blk_lt HHB2.out
                  go_upto_region 18 with (fail)
                  have hS := And.intro (Below.refl W2.heap.size W2) (And.intro k2 ca6)
                  clear k0 k1 k2 ca6
                  refine start_ (S := fun w' => Below W2.heap.size W2 w' ∧ w'.cell? ⟨hb, 2, none⟩ = some (.slice An op.new.length cn) ∧ w'.cell? (bd.add k) = some (.string x)) (ds := [7, 8, 9]) (n := 10) #[false, false, false, false, false, false, false, false, false, false] rfl rfl rfl ?hS0 (fun hHeld => ?hrun)
                  case hS0 => exact keep2 hS ((Below.refl _ _).drew)
                  case hrun =>
                    refine pure_ (i := 0) (N := some 122) (v := ?_) (a' := ?_) #[true, false, false, false, false, false, false, false, false, false] rfl rfl (by kernel_rfl) (fun _ _ _ h => h) (Or.inl ⟨by rfl, ?_⟩) ?_ ?_
                    rotate_left
                    · intro w'
                      go_simp
                      first | done | with_reducible rfl
                    rotate_left
                    · simp only [Act.put, List.setIfInBounds_toArray, List.set_cons_zero, List.set_cons_succ, i64_w, i32_w]
                      rfl
                    refine take_ (i := 1) (N := some 123) (v := ?_) (a' := ?_) #[true, true, false, false, false, false, false, false, false, false] rfl rfl (by kernel_rfl) (fun _ _ _ h => h) (Or.inl ⟨by rfl, ?_⟩) hHeld ?_ ?_
                    rotate_left
                    · rintro w' ⟨hbe, s0, s1⟩
                      go_simp
                      first | done | with_reducible rfl
                    rotate_left
                    · simp only [Act.put, List.setIfInBounds_toArray, List.set_cons_zero, List.set_cons_succ, i64_w, i32_w]
                      rfl
                    refine pure_ (i := 2) (N := some 124) (v := ?_) (a' := ?_) #[true, true, true, false, false, false, false, false, false, false] rfl rfl (by kernel_rfl) (fun _ _ _ h => h) (Or.inl ⟨by rfl, ?_⟩) ?_ ?_
                    rotate_left
                    · intro w'
                      go_simp
                      first | done | with_reducible rfl
                    rotate_left
                    · simp only [Act.put, List.setIfInBounds_toArray, List.set_cons_zero, List.set_cons_succ, i64_w, i32_w]
                      rfl
                    refine pure_ (i := 3) (N := some 125) (v := ?_) (a' := ?_) #[true, true, true, true, false, false, false, false, false, false] rfl rfl (by kernel_rfl) (fun _ _ _ h => h) (Or.inl ⟨by rfl, ?_⟩) ?_ ?_
                    rotate_left
                    · intro w'
                      go_simp
                      first | done | with_reducible rfl
                    rotate_left
                    · simp only [Act.put, List.setIfInBounds_toArray, List.set_cons_zero, List.set_cons_succ, i64_w, i32_w]
                      rfl
                    refine pure_ (i := 4) (N := some 126) (v := ?_) (a' := ?_) #[true, true, true, true, true, false, false, false, false, false] rfl rfl (by kernel_rfl) (fun _ _ _ h => h) (Or.inl ⟨by rfl, ?_⟩) ?_ ?_
                    rotate_left
                    · intro w'
                      go_simp
                      first | done | with_reducible rfl
                    rotate_left
                    · simp only [Act.put, List.setIfInBounds_toArray, List.set_cons_zero, List.set_cons_succ, i64_w, i32_w]
                      rfl
                    refine take_ (i := 5) (N := some 127) (v := ?_) (a' := ?_) #[true, true, true, true, true, true, false, false, false, false] rfl rfl (by kernel_rfl) (fun _ _ _ h => h) (Or.inl ⟨by rfl, ?_⟩) hHeld ?_ ?_
                    rotate_left
                    · rintro w' ⟨hbe, s0, s1⟩
                      go_simp
                      first | done | with_reducible rfl
                    rotate_left
                    · simp only [Act.put, List.setIfInBounds_toArray, List.set_cons_zero, List.set_cons_succ, i64_w, i32_w]
                      rfl
                    refine one_ (i := 6) (N := some 128) #[true, true, true, true, true, true, true, false, false, false] rfl rfl (by kernel_rfl) (by decide) (fun K hK => ?_)
                    refine value_ (by rfl) rfl (by go_simp; first | rfl | exact ⟨rfl, rfl⟩) ?_
                    refine hK.out _ _ (keep2 hHeld (below_alloc (Below.refl _ _) _)) (fun hHeld1 => ?_)
                    clear hK K
                    refine norm_ (a' := ?_) ?_ ?_
                    rotate_left
                    · show Act.put _ (some 128) _ = _
                      simp only [Act.put, List.setIfInBounds_toArray, List.set_cons_zero, List.set_cons_succ, i64_w, i32_w]
                      rfl
                    refine tail_list 7 (t := [7, 8, 9]) (fuel := 0) rfl rfl rfl (by kernel_rfl) (by decide) ?_
                    clear hS hHeld hHeld1
                    obtain ⟨W0, hW0⟩ : ∃ W0, W0 = W2.drew := ⟨_, rfl⟩
                    have hW1 : (W2.alloc (.cells #[.string x] 9)).drew = W0.alloc (.cells #[.string x] 9) := by rw [hW0]; rfl
                    rw [hW1]
                    have HSZ0 := Lib.hid (show W0.heap.size = W2.heap.size by rw [hW0]; rfl)
                    have HST7 := Lib.hid (show RSt w W0 w.heap.size kg kc na nb a b blk done (some op) (.slice (some ⟨g, 0, none⟩) (done.length + 1) cap) vo1 vn1 by rw [hW0]; exact HSTW2.out.below HSTW2.out.bel.size (Below.refl _ _).drew)
                    have HR7 := Lib.hid (show Kd.string.R 9 W0 w.heap.size (fun _ => True) (vn1 done.length) op.new by rw [hW0]; exact Kd.R_drew HR2.out)
                    have HC7 := Lib.hid (show W0.heap[hb]? = some (.cells #[.int .i64 (op.pos : Int), .slice Ao op.old.length co, .slice An op.new.length cn] 24 (0, 0)) by rw [hW0]; exact HHB2.out)
                    clear hW1 hW0 HSTW2 HR2 HHB2 kl
                    show wpList _ _ _ (_ :: _) _ _
                    refine (Kd.R_append Kd.string (w0 := w) (W := W0) w.heap.size rfl _ _ 22 9 (.string ⟨#[]⟩) 16 rfl Try.underlying22 infoS rfl (by decide) (by decide) (vn1 done.length) op.new x [.string x] (fun _ => True) (fun _ => False) (by rw [HVN.out]; rfl) (by rw [HSZ0.out]; rfl) rfl (fun _ h => h.elim) (fun _ _ => trivial) HR7.out HST7.out.bel HST7.out.bel.size (by have := HFO.out; omega) ?_)
                    intro v1 w7 hR7 hB7 hg7 hat7
                    have hst7 := HST7.out.whole_new HC7.out hgh hbs hR7 hB7 hg7 hat7
                    obtain ⟨Av, cv, rfl, _, _, _⟩ := R_addr hR7
                    have el : (op.new ++ [x]).length = op.new.length + 1 := by simp
                    rw [el] at hst7 hR7 ⊢
                    rw [HVO.out] at hst7
                    clear el
                    have hc7 : w7.heap[hb]? = some (.cells #[.int .i64 (op.pos : Int), .slice Ao op.old.length co, .slice An op.new.length cn] 24 (0, 0)) := (hg7.block hb (blk_lt HC7.out) (Kd.R_ne HR7.out HC7.out (by decide))).trans HC7.out
                    have hrw := HST7.out.hks.rows
                    rw [show (done ++ (some op).toList).length = done.length + 1 by simp] at hrw
                    obtain ⟨g1, c1, he1, hcp1, _, _, cells6, hcells6⟩ := own_form hrw (by omega)
                    have hgg : g1 = g := by injection he1 with he1; injection he1 with he1; injection he1 with he1; exact he1.symm
                    subst hgg
                    have hcells7 : w7.heap[g1]? = some (.cells cells6 24 (0, 0)) := (hg7.block g1 (blk_lt hcells6) (Kd.R_ne HR7.out hcells6 (by decide))).trans hcells6
                    obtain ⟨q0, q1, q2⟩ := HST7.out.hks.get g1 cap (by simp) (i := done.length) (by simp)
                    rw [blk_cell hcells6, ← blk_cell hcells7] at q0 q1 q2
                    have p0 := blk_frozen hcells7 (done.length * 3)
                    have p1 := blk_frozen hcells7 (done.length * 3 + 1)
                    have p2 := blk_frozen hcells7 (done.length * 3 + 2)
                    have lg7 := blk_lt hcells7
                    obtain ⟨k0, k1, k2⟩ := head_cells hc7
                    have kl := blk_lt hc7
                    have kf := blk_frozen hc7 2
                    have hgh2 : hb ≠ g1 := fun e => hgh e.symm
                    have HST8 := Lib.hid hst7
                    clear hst7 hR7 hB7 hg7 hat7 hcells7 hc7 HST7 HR7 HC7 hrw he1 hcells6
                    go_wp2_with fail
                    exact ⟨⟨i, k + 1, done, some _, _, _, by omega, by omega, by go_num, by go_num, rfl, HST8.out, HAT6.out⟩, by simp [intOf]; omega⟩
          · have hq : (xa.toList == xb.toList) = false := by rw [beq_eq_false_iff_ne]; exact fun h => hxy ((bytes_eq _ _).1 h)
            have hkeep : keepB a b i k = false := by
              cases h : keepB a b i k with
              | false => rfl
              | true => exact absurd (hkeq.1 h).1 hxy
            clear hkeq
            go_wp2_with fail
            go_quiet (fail)
            have HSTq := Lib.hid (HST.out.below hsz (below_drewN0 wr nq))
            have hszq : w.heap.size ≤ (wr.drewN nq).heap.size := hsz
            generalize wr.drewN nq = wq at *
            clear HST
            cases cur with
            | none =>
              have hbn := HBND.out
              have hl5 : done.length < 100000 := by omega
              clear hbn
              have HROW := Lib.hid (show wq.ownsRow w.heap.size 24 3 u6 done.length (hkCells done vo vn) by have := HSTq.out.hks.rows; simpa using this)
              go_wp2_with (at_builtin; go_loud (refine print_append_cells (w0 := w) (W := wq) w.heap.size rfl _ _ 28 24 (.agg #[.int .i64 0, .slice none 0 0, .slice none 0 0]) 3 56 rfl Try.underlying28 infoH rfl (by decide) (by decide) u6 done.length (hkCells done vo vn) [.int .i64 (k : Int), .slice none 0 0, .slice none 0 0] rfl rfl rfl ?hone1 ?HO1 ?HB1 ?hbase1 ?hl1 ?hk1))
              case hone1 =>
                intro u hu
                simp only [List.mem_cons, List.not_mem_nil, or_false] at hu
                rcases hu with rfl | rfl | rfl <;> rfl
              case HO1 => exact HROW.out
              case HB1 => exact HSTq.out.bel
              case hbase1 => exact hszq
              case hl1 => omega
              intro v1 w2 hrow2 hB2 hg2 hat2
              have hst2 := HSTq.out.snoc k hrow2 hg2 hB2
              obtain ⟨g, cap, rfl, hgc, hgb, hgl, cells, hcells⟩ := own_form hrow2 (by omega)
              generalize hvo : (fun i => if i = done.length then Value.slice none 0 0 else vo i) = vo1 at hst2
              generalize hvn : (fun i => if i = done.length then Value.slice none 0 0 else vn i) = vn1 at hst2
              have hx0 : openK k none = ⟨k, [], []⟩ := rfl
              rw [← hx0] at hst2
              have HST2 := Lib.hid hst2
              have hsz2 := hst2.bel.size
              clear hrow2 hB2 hg2 hat2 hst2 hvo hvn HSTq HROW hszq hx0 hcells
              obtain ⟨q0, q1, q2⟩ := HST2.out.hks.get g cap (by simp) (i := done.length) (by simp)
              rw [getD_last'] at q0
              have hRo := HST2.out.hks.old done.length (by simp)
              have hRn := HST2.out.hks.new done.length (by simp)
              rw [getD_last'] at hRo hRn
              obtain ⟨Ao, co, hvo, _, _, _⟩ := R_addr hRo
              obtain ⟨An, cn, hvn, _, _, _⟩ := R_addr hRn
              rw [hvo] at q1
              rw [hvn] at q2
              have HVO := Lib.hid hvo
              have HVN := Lib.hid hvn
              have HRO := Lib.hid hRo
              have HRN := Lib.hid hRn
              clear hvo hvn hRo hRn
              have hcost := open_cost k none
              have hfo : (openK k none).old.length ≤ 1200 := by have := HBND.out; omega
              have hfn : (openK k none).new.length ≤ 1200 := by have := HBND.out; omega
              have HFO := Lib.hid (And.intro hfo hfn)
              clear hcost hfo hfn
              have HOP := Lib.hid (show openK k none = openK k none from rfl)
              generalize hop : openK k none = op at *
              go_wp2_with fail
              generalize hcur : (none : Option (Hk ByteArray)) = cur at *
              have hopc : op = openK k cur := hop.symm
              clear HOP hop hcur
              have HOP := Lib.hid hopc
              clear hopc q0 q1 q2
              obtain ⟨W, hW⟩ : ∃ W, W = w2.alloc (.cells #[.int .i64 (op.pos : Int), .slice Ao op.old.length co, .slice An op.new.length cn] 24) := ⟨_, rfl⟩
              have hBW : Below w2.heap.size w2 W := by rw [hW]; exact (Below.refl _ _).alloc (Nat.le_refl _) _
              have hhb : W.heap[w2.heap.size]? = some (.cells #[.int .i64 (op.pos : Int), .slice Ao op.old.length co, .slice An op.new.length cn] 24 (0, 0)) := by rw [hW]; exact heap_alloc_new _ _
              rw [← hW]
              have hstW := HST2.out.below hsz2 hBW
              have hRoW := Kd.R_below HRO.out hBW
              have hRnW := Kd.R_below HRN.out hBW
              generalize hhbe : w2.heap.size = hb at *
              have hgh : g ≠ hb := by omega
              have hbs : w.heap.size ≤ hb := by omega
              clear hW hBW hhbe HST2 HRO HRN
              have HSTW := Lib.hid hstW
              have HHB := Lib.hid hhb
              have HROW := Lib.hid hRoW
              have HRNW := Lib.hid hRnW
              clear hstW hhb hRoW hRnW
              clear x1 x2 y1 y2 l1 l2 f1 f2 b1 hb1 hb0
              obtain ⟨x1, x2, l1, _⟩ := HSTW.out.tab.get kg kc rfl (i := i + 1) (k := k) (by omega) (by omega)
              obtain ⟨y1, y2, l2, _⟩ := HSTW.out.tab.get kg kc rfl (i := i) (k := k + 1) (by omega) (by omega)
              obtain ⟨_, _, _, _, _, lg2, _⟩ := own_form HSTW.out.tab.rows (by omega)
              unfold int64 at x2 y2
              have hgoes := goes_in (a := a) (b := b) (i := i) (k := k) (by rw [HNA.out]; exact hin) (by rw [HNB.out]; exact hkn)
              generalize LL a b (i + 1) k = X2 at x2 hgoes
              generalize LL a b i (k + 1) = Y2 at y2 hgoes
              generalize blk (i + 1) = blk1 at x1 x2 l1
              generalize blk i = blk0 at y1 y2 l2
              have dk2 : ¬ nb ≤ k := by omega
              have dk3 : ¬ (k : Int) ≥ (nb : Int) := by omega
              by_cases hXY2 : Y2 ≤ X2
              · have hgo : goesB a b i k = true := by rw [hgoes]; exact decide_eq_true hXY2
                have hge : decide ((X2 : Int) ≥ (Y2 : Int)) = true := decide_eq_true (by omega)
                clear hgoes
                go_wp2_with fail
                go_quiet (fail)
                have HSTW2 := Lib.hid (HSTW.out.below HSTW.out.bel.size (below_drewN0 W nq))
                have HHB2 := Lib.hid (show (W.drewN nq).heap[hb]? = some (.cells #[.int .i64 (op.pos : Int), .slice Ao op.old.length co, .slice An op.new.length cn] 24 (0, 0)) from HHB.out)
                have HR2 := Lib.hid (Kd.R_drewN HROW.out nq)
                generalize W.drewN nq = W2 at *
                clear HSTW HHB HROW HRNW
                obtain ⟨h1, hat5⟩ := at_del HAT.out (by rw [HNA.out]; exact hi) (by rw [HNB.out]; exact hk) (by rw [HNA.out, HNB.out]; exact HOR.out) hkeep hgo
                rw [takeOut_open, ← HOP.out] at hat5
                have h1n : i < na := by rw [← HNA.out]; exact h1
                clear hgo hkeep
                try clear x1 x2 y1 y2 l1 l2 lg2 hge hXY2
                try clear ca1 cb1
                obtain ⟨ae, hae, ca6⟩ := Kd.at_string (Kd.C_below HA.out HSTW2.out.bel) (i : Int) (by omega) (by omega)
                rw [rdOf_nat _ _ _ h1, Int.toNat_natCast] at ca6
                obtain rfl := Option.some.inj hae
                obtain ⟨x, hx⟩ : ∃ x, x = a[i] := ⟨_, rfl⟩
                rw [← hx] at ca6 hat5
                have HAT6 := Lib.hid hat5
                clear hx hat5
                obtain ⟨k0, k1, k2⟩ := head_cells HHB2.out
                have kl := blk_lt HHB2.out
                go_upto_region 16 with (fail)
                have hS := And.intro (Below.refl W2.heap.size W2) (And.intro k1 ca6)
                clear k0 k1 k2 ca6
                refine start_ (S := fun w' => Below W2.heap.size W2 w' ∧ w'.cell? ⟨hb, 1, none⟩ = some (.slice Ao op.old.length co) ∧ w'.cell? (ad.add i) = some (.string x)) (ds := [7, 8, 9]) (n := 10) #[false, false, false, false, false, false, false, false, false, false] rfl rfl rfl ?hS0 (fun hHeld => ?hrun)
                case hS0 => exact keep2 hS ((Below.refl _ _).drew)
                case hrun =>
                  refine pure_ (i := 0) (N := some 111) (v := ?_) (a' := ?_) #[true, false, false, false, false, false, false, false, false, false] rfl rfl (by kernel_rfl) (fun _ _ _ h => h) (Or.inl ⟨by rfl, ?_⟩) ?_ ?_
                  rotate_left
                  · intro w'
                    go_simp
                    first | done | with_reducible rfl
                  rotate_left
                  · simp only [Act.put, List.setIfInBounds_toArray, List.set_cons_zero, List.set_cons_succ, i64_w, i32_w]
                    rfl
                  refine take_ (i := 1) (N := some 112) (v := ?_) (a' := ?_) #[true, true, false, false, false, false, false, false, false, false] rfl rfl (by kernel_rfl) (fun _ _ _ h => h) (Or.inl ⟨by rfl, ?_⟩) hHeld ?_ ?_
                  rotate_left
                  · rintro w' ⟨hbe, s0, s1⟩
                    go_simp
                    first | done | with_reducible rfl
                  rotate_left
                  · simp only [Act.put, List.setIfInBounds_toArray, List.set_cons_zero, List.set_cons_succ, i64_w, i32_w]
                    rfl
                  refine pure_ (i := 2) (N := some 113) (v := ?_) (a' := ?_) #[true, true, true, false, false, false, false, false, false, false] rfl rfl (by kernel_rfl) (fun _ _ _ h => h) (Or.inl ⟨by rfl, ?_⟩) ?_ ?_
                  rotate_left
                  · intro w'
                    go_simp
                    first | done | with_reducible rfl
                  rotate_left
                  · simp only [Act.put, List.setIfInBounds_toArray, List.set_cons_zero, List.set_cons_succ, i64_w, i32_w]
                    rfl
                  refine pure_ (i := 3) (N := some 114) (v := ?_) (a' := ?_) #[true, true, true, true, false, false, false, false, false, false] rfl rfl (by kernel_rfl) (fun _ _ _ h => h) (Or.inl ⟨by rfl, ?_⟩) ?_ ?_
                  rotate_left
                  · intro w'
                    go_simp
                    first | done | with_reducible rfl
                  rotate_left
                  · simp only [Act.put, List.setIfInBounds_toArray, List.set_cons_zero, List.set_cons_succ, i64_w, i32_w]
                    rfl
                  refine pure_ (i := 4) (N := some 115) (v := ?_) (a' := ?_) #[true, true, true, true, true, false, false, false, false, false] rfl rfl (by kernel_rfl) (fun _ _ _ h => h) (Or.inl ⟨by rfl, ?_⟩) ?_ ?_
                  rotate_left
                  · intro w'
                    go_simp
                    first | done | with_reducible rfl
                  rotate_left
                  · simp only [Act.put, List.setIfInBounds_toArray, List.set_cons_zero, List.set_cons_succ, i64_w, i32_w]
                    rfl
                  refine take_ (i := 5) (N := some 116) (v := ?_) (a' := ?_) #[true, true, true, true, true, true, false, false, false, false] rfl rfl (by kernel_rfl) (fun _ _ _ h => h) (Or.inl ⟨by rfl, ?_⟩) hHeld ?_ ?_
                  rotate_left
                  · rintro w' ⟨hbe, s0, s1⟩
                    go_simp
                    first | done | with_reducible rfl
                  rotate_left
                  · simp only [Act.put, List.setIfInBounds_toArray, List.set_cons_zero, List.set_cons_succ, i64_w, i32_w]
                    rfl
                  refine one_ (i := 6) (N := some 117) #[true, true, true, true, true, true, true, false, false, false] rfl rfl (by kernel_rfl) (by decide) (fun K hK => ?_)
                  refine value_ (by rfl) rfl (by go_simp; first | rfl | exact ⟨rfl, rfl⟩) ?_
                  refine hK.out _ _ (keep2 hHeld (below_alloc (Below.refl _ _) _)) (fun hHeld1 => ?_)
                  clear hK K
                  refine norm_ (a' := ?_) ?_ ?_
                  rotate_left
                  · show Act.put _ (some 117) _ = _
                    simp only [Act.put, List.setIfInBounds_toArray, List.set_cons_zero, List.set_cons_succ, i64_w, i32_w]
                    rfl
                  refine tail_list 7 (t := [7, 8, 9]) (fuel := 0) rfl rfl rfl (by kernel_rfl) (by decide) ?_
                  clear hS hHeld hHeld1
                  obtain ⟨W0, hW0⟩ : ∃ W0, W0 = W2.drew := ⟨_, rfl⟩
                  have hW1 : (W2.alloc (.cells #[.string x] 9)).drew = W0.alloc (.cells #[.string x] 9) := by rw [hW0]; rfl
                  rw [hW1]
                  have HSZ0 := Lib.hid (show W0.heap.size = W2.heap.size by rw [hW0]; rfl)
                  have HST7 := Lib.hid (show RSt w W0 w.heap.size kg kc na nb a b blk done (some op) (.slice (some ⟨g, 0, none⟩) (done.length + 1) cap) vo1 vn1 by rw [hW0]; exact HSTW2.out.below HSTW2.out.bel.size (Below.refl _ _).drew)
                  have HR7 := Lib.hid (show Kd.string.R 9 W0 w.heap.size (fun _ => True) (vo1 done.length) op.old by rw [hW0]; exact Kd.R_drew HR2.out)
                  have HC7 := Lib.hid (show W0.heap[hb]? = some (.cells #[.int .i64 (op.pos : Int), .slice Ao op.old.length co, .slice An op.new.length cn] 24 (0, 0)) by rw [hW0]; exact HHB2.out)
                  clear hW1 hW0 HSTW2 HR2 HHB2 kl
                  show wpList _ _ _ (_ :: _) _ _
                  refine (Kd.R_append Kd.string (w0 := w) (W := W0) w.heap.size rfl _ _ 22 9 (.string ⟨#[]⟩) 16 rfl Try.underlying22 infoS rfl (by decide) (by decide) (vo1 done.length) op.old x [.string x] (fun _ => True) (fun _ => False) (by rw [HVO.out]; rfl) (by rw [HSZ0.out]; rfl) rfl (fun _ h => h.elim) (fun _ _ => trivial) HR7.out HST7.out.bel HST7.out.bel.size (by have := HFO.out; omega) ?_)
                  intro v1 w7 hR7 hB7 hg7 hat7
                  have hst7 := HST7.out.whole_old HC7.out hgh hbs hR7 hB7 hg7 hat7
                  obtain ⟨Av, cv, rfl, _, _, _⟩ := R_addr hR7
                  have el : (op.old ++ [x]).length = op.old.length + 1 := by simp
                  rw [el] at hst7 hR7 ⊢
                  rw [HVN.out] at hst7
                  clear el
                  have hc7 : w7.heap[hb]? = some (.cells #[.int .i64 (op.pos : Int), .slice Ao op.old.length co, .slice An op.new.length cn] 24 (0, 0)) := (hg7.block hb (blk_lt HC7.out) (Kd.R_ne HR7.out HC7.out (by decide))).trans HC7.out
                  have hrw := HST7.out.hks.rows
                  rw [show (done ++ (some op).toList).length = done.length + 1 by simp] at hrw
                  obtain ⟨g1, c1, he1, hcp1, _, _, cells6, hcells6⟩ := own_form hrw (by omega)
                  have hgg : g1 = g := by injection he1 with he1; injection he1 with he1; injection he1 with he1; exact he1.symm
                  subst hgg
                  have hcells7 : w7.heap[g1]? = some (.cells cells6 24 (0, 0)) := (hg7.block g1 (blk_lt hcells6) (Kd.R_ne HR7.out hcells6 (by decide))).trans hcells6
                  obtain ⟨q0, q1, q2⟩ := HST7.out.hks.get g1 cap (by simp) (i := done.length) (by simp)
                  rw [blk_cell hcells6, ← blk_cell hcells7] at q0 q1 q2
                  have p0 := blk_frozen hcells7 (done.length * 3)
                  have p1 := blk_frozen hcells7 (done.length * 3 + 1)
                  have p2 := blk_frozen hcells7 (done.length * 3 + 2)
                  have lg7 := blk_lt hcells7
                  obtain ⟨k0, k1, k2⟩ := head_cells hc7
                  have kl := blk_lt hc7
                  have kf := blk_frozen hc7 1
                  have hgh2 : hb ≠ g1 := fun e => hgh e.symm
                  have HST8 := Lib.hid hst7
                  clear hst7 hR7 hB7 hg7 hat7 hcells7 hc7 HST7 HR7 HC7 hrw he1 hcells6
                  go_wp2_with fail
                  exact ⟨⟨i + 1, k, done, some _, _, _, by omega, by omega, by go_num, by go_num, rfl, HST8.out, HAT6.out⟩, by simp [intOf]; omega⟩
              · have hgo : goesB a b i k = false := by rw [hgoes]; exact decide_eq_false hXY2
                have hge : decide ((X2 : Int) ≥ (Y2 : Int)) = false := decide_eq_false (by omega)
                clear hgoes
                go_wp2_with fail
                go_quiet (fail)
                have HSTW2 := Lib.hid (HSTW.out.below HSTW.out.bel.size (below_drewN0 W nq))
                have HHB2 := Lib.hid (show (W.drewN nq).heap[hb]? = some (.cells #[.int .i64 (op.pos : Int), .slice Ao op.old.length co, .slice An op.new.length cn] 24 (0, 0)) from HHB.out)
                have HR2 := Lib.hid (Kd.R_drewN HRNW.out nq)
                generalize W.drewN nq = W2 at *
                clear HSTW HHB HROW HRNW
                obtain ⟨h2, hat5⟩ := at_ins HAT.out (by rw [HNA.out]; exact hi) (by rw [HNB.out]; exact hk) (by rw [HNA.out, HNB.out]; exact HOR.out) hkeep hgo
                rw [putIn_open, ← HOP.out] at hat5
                have h1n : k < nb := by rw [← HNB.out]; exact h2
                clear hgo hkeep
                try clear x1 x2 y1 y2 l1 l2 lg2 hge hXY2
                try clear ca1 cb1
                obtain ⟨ae, hae, ca6⟩ := Kd.at_string (Kd.C_below HB.out HSTW2.out.bel) (k : Int) (by omega) (by omega)
                rw [rdOf_nat _ _ _ h2, Int.toNat_natCast] at ca6
                obtain rfl := Option.some.inj hae
                obtain ⟨x, hx⟩ : ∃ x, x = b[k] := ⟨_, rfl⟩
                rw [← hx] at ca6 hat5
                have HAT6 := Lib.hid hat5
                clear hx hat5
                obtain ⟨k0, k1, k2⟩ := head_cells HHB2.out
                have kl := blk_lt HHB2.out
                go_upto_region 18 with (fail)
                have hS := And.intro (Below.refl W2.heap.size W2) (And.intro k2 ca6)
                clear k0 k1 k2 ca6
                refine start_ (S := fun w' => Below W2.heap.size W2 w' ∧ w'.cell? ⟨hb, 2, none⟩ = some (.slice An op.new.length cn) ∧ w'.cell? (bd.add k) = some (.string x)) (ds := [7, 8, 9]) (n := 10) #[false, false, false, false, false, false, false, false, false, false] rfl rfl rfl ?hS0 (fun hHeld => ?hrun)
                case hS0 => exact keep2 hS ((Below.refl _ _).drew)
                case hrun =>
                  refine pure_ (i := 0) (N := some 122) (v := ?_) (a' := ?_) #[true, false, false, false, false, false, false, false, false, false] rfl rfl (by kernel_rfl) (fun _ _ _ h => h) (Or.inl ⟨by rfl, ?_⟩) ?_ ?_
                  rotate_left
                  · intro w'
                    go_simp
                    first | done | with_reducible rfl
                  rotate_left
                  · simp only [Act.put, List.setIfInBounds_toArray, List.set_cons_zero, List.set_cons_succ, i64_w, i32_w]
                    rfl
                  refine take_ (i := 1) (N := some 123) (v := ?_) (a' := ?_) #[true, true, false, false, false, false, false, false, false, false] rfl rfl (by kernel_rfl) (fun _ _ _ h => h) (Or.inl ⟨by rfl, ?_⟩) hHeld ?_ ?_
                  rotate_left
                  · rintro w' ⟨hbe, s0, s1⟩
                    go_simp
                    first | done | with_reducible rfl
                  rotate_left
                  · simp only [Act.put, List.setIfInBounds_toArray, List.set_cons_zero, List.set_cons_succ, i64_w, i32_w]
                    rfl
                  refine pure_ (i := 2) (N := some 124) (v := ?_) (a' := ?_) #[true, true, true, false, false, false, false, false, false, false] rfl rfl (by kernel_rfl) (fun _ _ _ h => h) (Or.inl ⟨by rfl, ?_⟩) ?_ ?_
                  rotate_left
                  · intro w'
                    go_simp
                    first | done | with_reducible rfl
                  rotate_left
                  · simp only [Act.put, List.setIfInBounds_toArray, List.set_cons_zero, List.set_cons_succ, i64_w, i32_w]
                    rfl
                  refine pure_ (i := 3) (N := some 125) (v := ?_) (a' := ?_) #[true, true, true, true, false, false, false, false, false, false] rfl rfl (by kernel_rfl) (fun _ _ _ h => h) (Or.inl ⟨by rfl, ?_⟩) ?_ ?_
                  rotate_left
                  · intro w'
                    go_simp
                    first | done | with_reducible rfl
                  rotate_left
                  · simp only [Act.put, List.setIfInBounds_toArray, List.set_cons_zero, List.set_cons_succ, i64_w, i32_w]
                    rfl
                  refine pure_ (i := 4) (N := some 126) (v := ?_) (a' := ?_) #[true, true, true, true, true, false, false, false, false, false] rfl rfl (by kernel_rfl) (fun _ _ _ h => h) (Or.inl ⟨by rfl, ?_⟩) ?_ ?_
                  rotate_left
                  · intro w'
                    go_simp
                    first | done | with_reducible rfl
                  rotate_left
                  · simp only [Act.put, List.setIfInBounds_toArray, List.set_cons_zero, List.set_cons_succ, i64_w, i32_w]
                    rfl
                  refine take_ (i := 5) (N := some 127) (v := ?_) (a' := ?_) #[true, true, true, true, true, true, false, false, false, false] rfl rfl (by kernel_rfl) (fun _ _ _ h => h) (Or.inl ⟨by rfl, ?_⟩) hHeld ?_ ?_
                  rotate_left
                  · rintro w' ⟨hbe, s0, s1⟩
                    go_simp
                    first | done | with_reducible rfl
                  rotate_left
                  · simp only [Act.put, List.setIfInBounds_toArray, List.set_cons_zero, List.set_cons_succ, i64_w, i32_w]
                    rfl
                  refine one_ (i := 6) (N := some 128) #[true, true, true, true, true, true, true, false, false, false] rfl rfl (by kernel_rfl) (by decide) (fun K hK => ?_)
                  refine value_ (by rfl) rfl (by go_simp; first | rfl | exact ⟨rfl, rfl⟩) ?_
                  refine hK.out _ _ (keep2 hHeld (below_alloc (Below.refl _ _) _)) (fun hHeld1 => ?_)
                  clear hK K
                  refine norm_ (a' := ?_) ?_ ?_
                  rotate_left
                  · show Act.put _ (some 128) _ = _
                    simp only [Act.put, List.setIfInBounds_toArray, List.set_cons_zero, List.set_cons_succ, i64_w, i32_w]
                    rfl
                  refine tail_list 7 (t := [7, 8, 9]) (fuel := 0) rfl rfl rfl (by kernel_rfl) (by decide) ?_
                  clear hS hHeld hHeld1
                  obtain ⟨W0, hW0⟩ : ∃ W0, W0 = W2.drew := ⟨_, rfl⟩
                  have hW1 : (W2.alloc (.cells #[.string x] 9)).drew = W0.alloc (.cells #[.string x] 9) := by rw [hW0]; rfl
                  rw [hW1]
                  have HSZ0 := Lib.hid (show W0.heap.size = W2.heap.size by rw [hW0]; rfl)
                  have HST7 := Lib.hid (show RSt w W0 w.heap.size kg kc na nb a b blk done (some op) (.slice (some ⟨g, 0, none⟩) (done.length + 1) cap) vo1 vn1 by rw [hW0]; exact HSTW2.out.below HSTW2.out.bel.size (Below.refl _ _).drew)
                  have HR7 := Lib.hid (show Kd.string.R 9 W0 w.heap.size (fun _ => True) (vn1 done.length) op.new by rw [hW0]; exact Kd.R_drew HR2.out)
                  have HC7 := Lib.hid (show W0.heap[hb]? = some (.cells #[.int .i64 (op.pos : Int), .slice Ao op.old.length co, .slice An op.new.length cn] 24 (0, 0)) by rw [hW0]; exact HHB2.out)
                  clear hW1 hW0 HSTW2 HR2 HHB2 kl
                  show wpList _ _ _ (_ :: _) _ _
                  refine (Kd.R_append Kd.string (w0 := w) (W := W0) w.heap.size rfl _ _ 22 9 (.string ⟨#[]⟩) 16 rfl Try.underlying22 infoS rfl (by decide) (by decide) (vn1 done.length) op.new x [.string x] (fun _ => True) (fun _ => False) (by rw [HVN.out]; rfl) (by rw [HSZ0.out]; rfl) rfl (fun _ h => h.elim) (fun _ _ => trivial) HR7.out HST7.out.bel HST7.out.bel.size (by have := HFO.out; omega) ?_)
                  intro v1 w7 hR7 hB7 hg7 hat7
                  have hst7 := HST7.out.whole_new HC7.out hgh hbs hR7 hB7 hg7 hat7
                  obtain ⟨Av, cv, rfl, _, _, _⟩ := R_addr hR7
                  have el : (op.new ++ [x]).length = op.new.length + 1 := by simp
                  rw [el] at hst7 hR7 ⊢
                  rw [HVO.out] at hst7
                  clear el
                  have hc7 : w7.heap[hb]? = some (.cells #[.int .i64 (op.pos : Int), .slice Ao op.old.length co, .slice An op.new.length cn] 24 (0, 0)) := (hg7.block hb (blk_lt HC7.out) (Kd.R_ne HR7.out HC7.out (by decide))).trans HC7.out
                  have hrw := HST7.out.hks.rows
                  rw [show (done ++ (some op).toList).length = done.length + 1 by simp] at hrw
                  obtain ⟨g1, c1, he1, hcp1, _, _, cells6, hcells6⟩ := own_form hrw (by omega)
                  have hgg : g1 = g := by injection he1 with he1; injection he1 with he1; injection he1 with he1; exact he1.symm
                  subst hgg
                  have hcells7 : w7.heap[g1]? = some (.cells cells6 24 (0, 0)) := (hg7.block g1 (blk_lt hcells6) (Kd.R_ne HR7.out hcells6 (by decide))).trans hcells6
                  obtain ⟨q0, q1, q2⟩ := HST7.out.hks.get g1 cap (by simp) (i := done.length) (by simp)
                  rw [blk_cell hcells6, ← blk_cell hcells7] at q0 q1 q2
                  have p0 := blk_frozen hcells7 (done.length * 3)
                  have p1 := blk_frozen hcells7 (done.length * 3 + 1)
                  have p2 := blk_frozen hcells7 (done.length * 3 + 2)
                  have lg7 := blk_lt hcells7
                  obtain ⟨k0, k1, k2⟩ := head_cells hc7
                  have kl := blk_lt hc7
                  have kf := blk_frozen hc7 2
                  have hgh2 : hb ≠ g1 := fun e => hgh e.symm
                  have HST8 := Lib.hid hst7
                  clear hst7 hR7 hB7 hg7 hat7 hcells7 hc7 HST7 HR7 HC7 hrw he1 hcells6
                  go_wp2_with fail
                  exact ⟨⟨i, k + 1, done, some _, _, _, by omega, by omega, by go_num, by go_num, rfl, HST8.out, HAT6.out⟩, by simp [intOf]; omega⟩
            | some x0 =>
              have hbn := HBND.out
              have hl5 : done.length < 100000 := by omega
              clear hbn
              have hrow2 := HSTq.out.hks.rows
              rw [show (done ++ (some x0).toList).length = done.length + 1 by simp] at hrow2
              obtain ⟨g, cap, rfl, hgc, hgb, hgl, cells, hcells⟩ := own_form hrow2 (by omega)
              have hx0 : openK k (some x0) = x0 := rfl
              have HST2 := Lib.hid (show RSt w wq w.heap.size kg kc na nb a b blk done (some (openK k (some x0))) (.slice (some ⟨g, 0, none⟩) (done.length + 1) cap) vo vn from HSTq.out)
              have hsz2 := hszq
              generalize wq = w2 at *
              generalize vo = vo1 at *
              generalize vn = vn1 at *
              clear hrow2 HSTq hszq hx0 hcells
              obtain ⟨q0, q1, q2⟩ := HST2.out.hks.get g cap (by simp) (i := done.length) (by simp)
              rw [getD_last'] at q0
              have hRo := HST2.out.hks.old done.length (by simp)
              have hRn := HST2.out.hks.new done.length (by simp)
              rw [getD_last'] at hRo hRn
              obtain ⟨Ao, co, hvo, _, _, _⟩ := R_addr hRo
              obtain ⟨An, cn, hvn, _, _, _⟩ := R_addr hRn
              rw [hvo] at q1
              rw [hvn] at q2
              have HVO := Lib.hid hvo
              have HVN := Lib.hid hvn
              have HRO := Lib.hid hRo
              have HRN := Lib.hid hRn
              clear hvo hvn hRo hRn
              have hcost := open_cost k (some x0)
              have hfo : (openK k (some x0)).old.length ≤ 1200 := by have := HBND.out; omega
              have hfn : (openK k (some x0)).new.length ≤ 1200 := by have := HBND.out; omega
              have HFO := Lib.hid (And.intro hfo hfn)
              clear hcost hfo hfn
              have HOP := Lib.hid (show openK k (some x0) = openK k (some x0) from rfl)
              generalize hop : openK k (some x0) = op at *
              go_wp2_with fail
              generalize hcur : some x0 = cur at *
              have hopc : op = openK k cur := hop.symm
              clear HOP hop hcur
              have HOP := Lib.hid hopc
              clear hopc q0 q1 q2
              obtain ⟨W, hW⟩ : ∃ W, W = w2.alloc (.cells #[.int .i64 (op.pos : Int), .slice Ao op.old.length co, .slice An op.new.length cn] 24) := ⟨_, rfl⟩
              have hBW : Below w2.heap.size w2 W := by rw [hW]; exact (Below.refl _ _).alloc (Nat.le_refl _) _
              have hhb : W.heap[w2.heap.size]? = some (.cells #[.int .i64 (op.pos : Int), .slice Ao op.old.length co, .slice An op.new.length cn] 24 (0, 0)) := by rw [hW]; exact heap_alloc_new _ _
              rw [← hW]
              have hstW := HST2.out.below hsz2 hBW
              have hRoW := Kd.R_below HRO.out hBW
              have hRnW := Kd.R_below HRN.out hBW
              generalize hhbe : w2.heap.size = hb at *
              have hgh : g ≠ hb := by omega
              have hbs : w.heap.size ≤ hb := by omega
              clear hW hBW hhbe HST2 HRO HRN
              have HSTW := Lib.hid hstW
              have HHB := Lib.hid hhb
              have HROW := Lib.hid hRoW
              have HRNW := Lib.hid hRnW
              clear hstW hhb hRoW hRnW
              clear x1 x2 y1 y2 l1 l2 f1 f2 b1 hb1 hb0
              obtain ⟨x1, x2, l1, _⟩ := HSTW.out.tab.get kg kc rfl (i := i + 1) (k := k) (by omega) (by omega)
              obtain ⟨y1, y2, l2, _⟩ := HSTW.out.tab.get kg kc rfl (i := i) (k := k + 1) (by omega) (by omega)
              obtain ⟨_, _, _, _, _, lg2, _⟩ := own_form HSTW.out.tab.rows (by omega)
              unfold int64 at x2 y2
              have hgoes := goes_in (a := a) (b := b) (i := i) (k := k) (by rw [HNA.out]; exact hin) (by rw [HNB.out]; exact hkn)
              generalize LL a b (i + 1) k = X2 at x2 hgoes
              generalize LL a b i (k + 1) = Y2 at y2 hgoes
              generalize blk (i + 1) = blk1 at x1 x2 l1
              generalize blk i = blk0 at y1 y2 l2
              have dk2 : ¬ nb ≤ k := by omega
              have dk3 : ¬ (k : Int) ≥ (nb : Int) := by omega
              by_cases hXY2 : Y2 ≤ X2
              · have hgo : goesB a b i k = true := by rw [hgoes]; exact decide_eq_true hXY2
                have hge : decide ((X2 : Int) ≥ (Y2 : Int)) = true := decide_eq_true (by omega)
                clear hgoes
                go_wp2_with fail
                go_quiet (fail)
                have HSTW2 := Lib.hid (HSTW.out.below HSTW.out.bel.size (below_drewN0 W nq))
                have HHB2 := Lib.hid (show (W.drewN nq).heap[hb]? = some (.cells #[.int .i64 (op.pos : Int), .slice Ao op.old.length co, .slice An op.new.length cn] 24 (0, 0)) from HHB.out)
                have HR2 := Lib.hid (Kd.R_drewN HROW.out nq)
                generalize W.drewN nq = W2 at *
                clear HSTW HHB HROW HRNW
                obtain ⟨h1, hat5⟩ := at_del HAT.out (by rw [HNA.out]; exact hi) (by rw [HNB.out]; exact hk) (by rw [HNA.out, HNB.out]; exact HOR.out) hkeep hgo
                rw [takeOut_open, ← HOP.out] at hat5
                have h1n : i < na := by rw [← HNA.out]; exact h1
                clear hgo hkeep
                try clear x1 x2 y1 y2 l1 l2 lg2 hge hXY2
                try clear ca1 cb1
                obtain ⟨ae, hae, ca6⟩ := Kd.at_string (Kd.C_below HA.out HSTW2.out.bel) (i : Int) (by omega) (by omega)
                rw [rdOf_nat _ _ _ h1, Int.toNat_natCast] at ca6
                obtain rfl := Option.some.inj hae
                obtain ⟨x, hx⟩ : ∃ x, x = a[i] := ⟨_, rfl⟩
                rw [← hx] at ca6 hat5
                have HAT6 := Lib.hid hat5
                clear hx hat5
                obtain ⟨k0, k1, k2⟩ := head_cells HHB2.out
                have kl := blk_lt HHB2.out
                go_upto_region 16 with (fail)
                have hS := And.intro (Below.refl W2.heap.size W2) (And.intro k1 ca6)
                clear k0 k1 k2 ca6
                refine start_ (S := fun w' => Below W2.heap.size W2 w' ∧ w'.cell? ⟨hb, 1, none⟩ = some (.slice Ao op.old.length co) ∧ w'.cell? (ad.add i) = some (.string x)) (ds := [7, 8, 9]) (n := 10) #[false, false, false, false, false, false, false, false, false, false] rfl rfl rfl ?hS0 (fun hHeld => ?hrun)
                case hS0 => exact keep2 hS ((Below.refl _ _).drew)
                case hrun =>
                  refine pure_ (i := 0) (N := some 111) (v := ?_) (a' := ?_) #[true, false, false, false, false, false, false, false, false, false] rfl rfl (by kernel_rfl) (fun _ _ _ h => h) (Or.inl ⟨by rfl, ?_⟩) ?_ ?_
                  rotate_left
                  · intro w'
                    go_simp
                    first | done | with_reducible rfl
                  rotate_left
                  · simp only [Act.put, List.setIfInBounds_toArray, List.set_cons_zero, List.set_cons_succ, i64_w, i32_w]
                    rfl
                  refine take_ (i := 1) (N := some 112) (v := ?_) (a' := ?_) #[true, true, false, false, false, false, false, false, false, false] rfl rfl (by kernel_rfl) (fun _ _ _ h => h) (Or.inl ⟨by rfl, ?_⟩) hHeld ?_ ?_
                  rotate_left
                  · rintro w' ⟨hbe, s0, s1⟩
                    go_simp
                    first | done | with_reducible rfl
                  rotate_left
                  · simp only [Act.put, List.setIfInBounds_toArray, List.set_cons_zero, List.set_cons_succ, i64_w, i32_w]
                    rfl
                  refine pure_ (i := 2) (N := some 113) (v := ?_) (a' := ?_) #[true, true, true, false, false, false, false, false, false, false] rfl rfl (by kernel_rfl) (fun _ _ _ h => h) (Or.inl ⟨by rfl, ?_⟩) ?_ ?_
                  rotate_left
                  · intro w'
                    go_simp
                    first | done | with_reducible rfl
                  rotate_left
                  · simp only [Act.put, List.setIfInBounds_toArray, List.set_cons_zero, List.set_cons_succ, i64_w, i32_w]
                    rfl
                  refine pure_ (i := 3) (N := some 114) (v := ?_) (a' := ?_) #[true, true, true, true, false, false, false, false, false, false] rfl rfl (by kernel_rfl) (fun _ _ _ h => h) (Or.inl ⟨by rfl, ?_⟩) ?_ ?_
                  rotate_left
                  · intro w'
                    go_simp
                    first | done | with_reducible rfl
                  rotate_left
                  · simp only [Act.put, List.setIfInBounds_toArray, List.set_cons_zero, List.set_cons_succ, i64_w, i32_w]
                    rfl
                  refine pure_ (i := 4) (N := some 115) (v := ?_) (a' := ?_) #[true, true, true, true, true, false, false, false, false, false] rfl rfl (by kernel_rfl) (fun _ _ _ h => h) (Or.inl ⟨by rfl, ?_⟩) ?_ ?_
                  rotate_left
                  · intro w'
                    go_simp
                    first | done | with_reducible rfl
                  rotate_left
                  · simp only [Act.put, List.setIfInBounds_toArray, List.set_cons_zero, List.set_cons_succ, i64_w, i32_w]
                    rfl
                  refine take_ (i := 5) (N := some 116) (v := ?_) (a' := ?_) #[true, true, true, true, true, true, false, false, false, false] rfl rfl (by kernel_rfl) (fun _ _ _ h => h) (Or.inl ⟨by rfl, ?_⟩) hHeld ?_ ?_
                  rotate_left
                  · rintro w' ⟨hbe, s0, s1⟩
                    go_simp
                    first | done | with_reducible rfl
                  rotate_left
                  · simp only [Act.put, List.setIfInBounds_toArray, List.set_cons_zero, List.set_cons_succ, i64_w, i32_w]
                    rfl
                  refine one_ (i := 6) (N := some 117) #[true, true, true, true, true, true, true, false, false, false] rfl rfl (by kernel_rfl) (by decide) (fun K hK => ?_)
                  refine value_ (by rfl) rfl (by go_simp; first | rfl | exact ⟨rfl, rfl⟩) ?_
                  refine hK.out _ _ (keep2 hHeld (below_alloc (Below.refl _ _) _)) (fun hHeld1 => ?_)
                  clear hK K
                  refine norm_ (a' := ?_) ?_ ?_
                  rotate_left
                  · show Act.put _ (some 117) _ = _
                    simp only [Act.put, List.setIfInBounds_toArray, List.set_cons_zero, List.set_cons_succ, i64_w, i32_w]
                    rfl
                  refine tail_list 7 (t := [7, 8, 9]) (fuel := 0) rfl rfl rfl (by kernel_rfl) (by decide) ?_
                  clear hS hHeld hHeld1
                  obtain ⟨W0, hW0⟩ : ∃ W0, W0 = W2.drew := ⟨_, rfl⟩
                  have hW1 : (W2.alloc (.cells #[.string x] 9)).drew = W0.alloc (.cells #[.string x] 9) := by rw [hW0]; rfl
                  rw [hW1]
                  have HSZ0 := Lib.hid (show W0.heap.size = W2.heap.size by rw [hW0]; rfl)
                  have HST7 := Lib.hid (show RSt w W0 w.heap.size kg kc na nb a b blk done (some op) (.slice (some ⟨g, 0, none⟩) (done.length + 1) cap) vo1 vn1 by rw [hW0]; exact HSTW2.out.below HSTW2.out.bel.size (Below.refl _ _).drew)
                  have HR7 := Lib.hid (show Kd.string.R 9 W0 w.heap.size (fun _ => True) (vo1 done.length) op.old by rw [hW0]; exact Kd.R_drew HR2.out)
                  have HC7 := Lib.hid (show W0.heap[hb]? = some (.cells #[.int .i64 (op.pos : Int), .slice Ao op.old.length co, .slice An op.new.length cn] 24 (0, 0)) by rw [hW0]; exact HHB2.out)
                  clear hW1 hW0 HSTW2 HR2 HHB2 kl
                  show wpList _ _ _ (_ :: _) _ _
                  refine (Kd.R_append Kd.string (w0 := w) (W := W0) w.heap.size rfl _ _ 22 9 (.string ⟨#[]⟩) 16 rfl Try.underlying22 infoS rfl (by decide) (by decide) (vo1 done.length) op.old x [.string x] (fun _ => True) (fun _ => False) (by rw [HVO.out]; rfl) (by rw [HSZ0.out]; rfl) rfl (fun _ h => h.elim) (fun _ _ => trivial) HR7.out HST7.out.bel HST7.out.bel.size (by have := HFO.out; omega) ?_)
                  intro v1 w7 hR7 hB7 hg7 hat7
                  have hst7 := HST7.out.whole_old HC7.out hgh hbs hR7 hB7 hg7 hat7
                  obtain ⟨Av, cv, rfl, _, _, _⟩ := R_addr hR7
                  have el : (op.old ++ [x]).length = op.old.length + 1 := by simp
                  rw [el] at hst7 hR7 ⊢
                  rw [HVN.out] at hst7
                  clear el
                  have hc7 : w7.heap[hb]? = some (.cells #[.int .i64 (op.pos : Int), .slice Ao op.old.length co, .slice An op.new.length cn] 24 (0, 0)) := (hg7.block hb (blk_lt HC7.out) (Kd.R_ne HR7.out HC7.out (by decide))).trans HC7.out
                  have hrw := HST7.out.hks.rows
                  rw [show (done ++ (some op).toList).length = done.length + 1 by simp] at hrw
                  obtain ⟨g1, c1, he1, hcp1, _, _, cells6, hcells6⟩ := own_form hrw (by omega)
                  have hgg : g1 = g := by injection he1 with he1; injection he1 with he1; injection he1 with he1; exact he1.symm
                  subst hgg
                  have hcells7 : w7.heap[g1]? = some (.cells cells6 24 (0, 0)) := (hg7.block g1 (blk_lt hcells6) (Kd.R_ne HR7.out hcells6 (by decide))).trans hcells6
                  obtain ⟨q0, q1, q2⟩ := HST7.out.hks.get g1 cap (by simp) (i := done.length) (by simp)
                  rw [blk_cell hcells6, ← blk_cell hcells7] at q0 q1 q2
                  have p0 := blk_frozen hcells7 (done.length * 3)
                  have p1 := blk_frozen hcells7 (done.length * 3 + 1)
                  have p2 := blk_frozen hcells7 (done.length * 3 + 2)
                  have lg7 := blk_lt hcells7
                  obtain ⟨k0, k1, k2⟩ := head_cells hc7
                  have kl := blk_lt hc7
                  have kf := blk_frozen hc7 1
                  have hgh2 : hb ≠ g1 := fun e => hgh e.symm
                  have HST8 := Lib.hid hst7
                  clear hst7 hR7 hB7 hg7 hat7 hcells7 hc7 HST7 HR7 HC7 hrw he1 hcells6
                  go_wp2_with fail
                  exact ⟨⟨i + 1, k, done, some _, _, _, by omega, by omega, by go_num, by go_num, rfl, HST8.out, HAT6.out⟩, by simp [intOf]; omega⟩
              · have hgo : goesB a b i k = false := by rw [hgoes]; exact decide_eq_false hXY2
                have hge : decide ((X2 : Int) ≥ (Y2 : Int)) = false := decide_eq_false (by omega)
                clear hgoes
                go_wp2_with fail
                go_quiet (fail)
                have HSTW2 := Lib.hid (HSTW.out.below HSTW.out.bel.size (below_drewN0 W nq))
                have HHB2 := Lib.hid (show (W.drewN nq).heap[hb]? = some (.cells #[.int .i64 (op.pos : Int), .slice Ao op.old.length co, .slice An op.new.length cn] 24 (0, 0)) from HHB.out)
                have HR2 := Lib.hid (Kd.R_drewN HRNW.out nq)
                generalize W.drewN nq = W2 at *
                clear HSTW HHB HROW HRNW
                obtain ⟨h2, hat5⟩ := at_ins HAT.out (by rw [HNA.out]; exact hi) (by rw [HNB.out]; exact hk) (by rw [HNA.out, HNB.out]; exact HOR.out) hkeep hgo
                rw [putIn_open, ← HOP.out] at hat5
                have h1n : k < nb := by rw [← HNB.out]; exact h2
                clear hgo hkeep
                try clear x1 x2 y1 y2 l1 l2 lg2 hge hXY2
                try clear ca1 cb1
                obtain ⟨ae, hae, ca6⟩ := Kd.at_string (Kd.C_below HB.out HSTW2.out.bel) (k : Int) (by omega) (by omega)
                rw [rdOf_nat _ _ _ h2, Int.toNat_natCast] at ca6
                obtain rfl := Option.some.inj hae
                obtain ⟨x, hx⟩ : ∃ x, x = b[k] := ⟨_, rfl⟩
                rw [← hx] at ca6 hat5
                have HAT6 := Lib.hid hat5
                clear hx hat5
                obtain ⟨k0, k1, k2⟩ := head_cells HHB2.out
                have kl := blk_lt HHB2.out
                go_upto_region 18 with (fail)
                have hS := And.intro (Below.refl W2.heap.size W2) (And.intro k2 ca6)
                clear k0 k1 k2 ca6
                refine start_ (S := fun w' => Below W2.heap.size W2 w' ∧ w'.cell? ⟨hb, 2, none⟩ = some (.slice An op.new.length cn) ∧ w'.cell? (bd.add k) = some (.string x)) (ds := [7, 8, 9]) (n := 10) #[false, false, false, false, false, false, false, false, false, false] rfl rfl rfl ?hS0 (fun hHeld => ?hrun)
                case hS0 => exact keep2 hS ((Below.refl _ _).drew)
                case hrun =>
                  refine pure_ (i := 0) (N := some 122) (v := ?_) (a' := ?_) #[true, false, false, false, false, false, false, false, false, false] rfl rfl (by kernel_rfl) (fun _ _ _ h => h) (Or.inl ⟨by rfl, ?_⟩) ?_ ?_
                  rotate_left
                  · intro w'
                    go_simp
                    first | done | with_reducible rfl
                  rotate_left
                  · simp only [Act.put, List.setIfInBounds_toArray, List.set_cons_zero, List.set_cons_succ, i64_w, i32_w]
                    rfl
                  refine take_ (i := 1) (N := some 123) (v := ?_) (a' := ?_) #[true, true, false, false, false, false, false, false, false, false] rfl rfl (by kernel_rfl) (fun _ _ _ h => h) (Or.inl ⟨by rfl, ?_⟩) hHeld ?_ ?_
                  rotate_left
                  · rintro w' ⟨hbe, s0, s1⟩
                    go_simp
                    first | done | with_reducible rfl
                  rotate_left
                  · simp only [Act.put, List.setIfInBounds_toArray, List.set_cons_zero, List.set_cons_succ, i64_w, i32_w]
                    rfl
                  refine pure_ (i := 2) (N := some 124) (v := ?_) (a' := ?_) #[true, true, true, false, false, false, false, false, false, false] rfl rfl (by kernel_rfl) (fun _ _ _ h => h) (Or.inl ⟨by rfl, ?_⟩) ?_ ?_
                  rotate_left
                  · intro w'
                    go_simp
                    first | done | with_reducible rfl
                  rotate_left
                  · simp only [Act.put, List.setIfInBounds_toArray, List.set_cons_zero, List.set_cons_succ, i64_w, i32_w]
                    rfl
                  refine pure_ (i := 3) (N := some 125) (v := ?_) (a' := ?_) #[true, true, true, true, false, false, false, false, false, false] rfl rfl (by kernel_rfl) (fun _ _ _ h => h) (Or.inl ⟨by rfl, ?_⟩) ?_ ?_
                  rotate_left
                  · intro w'
                    go_simp
                    first | done | with_reducible rfl
                  rotate_left
                  · simp only [Act.put, List.setIfInBounds_toArray, List.set_cons_zero, List.set_cons_succ, i64_w, i32_w]
                    rfl
                  refine pure_ (i := 4) (N := some 126) (v := ?_) (a' := ?_) #[true, true, true, true, true, false, false, false, false, false] rfl rfl (by kernel_rfl) (fun _ _ _ h => h) (Or.inl ⟨by rfl, ?_⟩) ?_ ?_
                  rotate_left
                  · intro w'
                    go_simp
                    first | done | with_reducible rfl
                  rotate_left
                  · simp only [Act.put, List.setIfInBounds_toArray, List.set_cons_zero, List.set_cons_succ, i64_w, i32_w]
                    rfl
                  refine take_ (i := 5) (N := some 127) (v := ?_) (a' := ?_) #[true, true, true, true, true, true, false, false, false, false] rfl rfl (by kernel_rfl) (fun _ _ _ h => h) (Or.inl ⟨by rfl, ?_⟩) hHeld ?_ ?_
                  rotate_left
                  · rintro w' ⟨hbe, s0, s1⟩
                    go_simp
                    first | done | with_reducible rfl
                  rotate_left
                  · simp only [Act.put, List.setIfInBounds_toArray, List.set_cons_zero, List.set_cons_succ, i64_w, i32_w]
                    rfl
                  refine one_ (i := 6) (N := some 128) #[true, true, true, true, true, true, true, false, false, false] rfl rfl (by kernel_rfl) (by decide) (fun K hK => ?_)
                  refine value_ (by rfl) rfl (by go_simp; first | rfl | exact ⟨rfl, rfl⟩) ?_
                  refine hK.out _ _ (keep2 hHeld (below_alloc (Below.refl _ _) _)) (fun hHeld1 => ?_)
                  clear hK K
                  refine norm_ (a' := ?_) ?_ ?_
                  rotate_left
                  · show Act.put _ (some 128) _ = _
                    simp only [Act.put, List.setIfInBounds_toArray, List.set_cons_zero, List.set_cons_succ, i64_w, i32_w]
                    rfl
                  refine tail_list 7 (t := [7, 8, 9]) (fuel := 0) rfl rfl rfl (by kernel_rfl) (by decide) ?_
                  clear hS hHeld hHeld1
                  obtain ⟨W0, hW0⟩ : ∃ W0, W0 = W2.drew := ⟨_, rfl⟩
                  have hW1 : (W2.alloc (.cells #[.string x] 9)).drew = W0.alloc (.cells #[.string x] 9) := by rw [hW0]; rfl
                  rw [hW1]
                  have HSZ0 := Lib.hid (show W0.heap.size = W2.heap.size by rw [hW0]; rfl)
                  have HST7 := Lib.hid (show RSt w W0 w.heap.size kg kc na nb a b blk done (some op) (.slice (some ⟨g, 0, none⟩) (done.length + 1) cap) vo1 vn1 by rw [hW0]; exact HSTW2.out.below HSTW2.out.bel.size (Below.refl _ _).drew)
                  have HR7 := Lib.hid (show Kd.string.R 9 W0 w.heap.size (fun _ => True) (vn1 done.length) op.new by rw [hW0]; exact Kd.R_drew HR2.out)
                  have HC7 := Lib.hid (show W0.heap[hb]? = some (.cells #[.int .i64 (op.pos : Int), .slice Ao op.old.length co, .slice An op.new.length cn] 24 (0, 0)) by rw [hW0]; exact HHB2.out)
                  clear hW1 hW0 HSTW2 HR2 HHB2 kl
                  show wpList _ _ _ (_ :: _) _ _
                  refine (Kd.R_append Kd.string (w0 := w) (W := W0) w.heap.size rfl _ _ 22 9 (.string ⟨#[]⟩) 16 rfl Try.underlying22 infoS rfl (by decide) (by decide) (vn1 done.length) op.new x [.string x] (fun _ => True) (fun _ => False) (by rw [HVN.out]; rfl) (by rw [HSZ0.out]; rfl) rfl (fun _ h => h.elim) (fun _ _ => trivial) HR7.out HST7.out.bel HST7.out.bel.size (by have := HFO.out; omega) ?_)
                  intro v1 w7 hR7 hB7 hg7 hat7
                  have hst7 := HST7.out.whole_new HC7.out hgh hbs hR7 hB7 hg7 hat7
                  obtain ⟨Av, cv, rfl, _, _, _⟩ := R_addr hR7
                  have el : (op.new ++ [x]).length = op.new.length + 1 := by simp
                  rw [el] at hst7 hR7 ⊢
                  rw [HVO.out] at hst7
                  clear el
                  have hc7 : w7.heap[hb]? = some (.cells #[.int .i64 (op.pos : Int), .slice Ao op.old.length co, .slice An op.new.length cn] 24 (0, 0)) := (hg7.block hb (blk_lt HC7.out) (Kd.R_ne HR7.out HC7.out (by decide))).trans HC7.out
                  have hrw := HST7.out.hks.rows
                  rw [show (done ++ (some op).toList).length = done.length + 1 by simp] at hrw
                  obtain ⟨g1, c1, he1, hcp1, _, _, cells6, hcells6⟩ := own_form hrw (by omega)
                  have hgg : g1 = g := by injection he1 with he1; injection he1 with he1; injection he1 with he1; exact he1.symm
                  subst hgg
                  have hcells7 : w7.heap[g1]? = some (.cells cells6 24 (0, 0)) := (hg7.block g1 (blk_lt hcells6) (Kd.R_ne HR7.out hcells6 (by decide))).trans hcells6
                  obtain ⟨q0, q1, q2⟩ := HST7.out.hks.get g1 cap (by simp) (i := done.length) (by simp)
                  rw [blk_cell hcells6, ← blk_cell hcells7] at q0 q1 q2
                  have p0 := blk_frozen hcells7 (done.length * 3)
                  have p1 := blk_frozen hcells7 (done.length * 3 + 1)
                  have p2 := blk_frozen hcells7 (done.length * 3 + 2)
                  have lg7 := blk_lt hcells7
                  obtain ⟨k0, k1, k2⟩ := head_cells hc7
                  have kl := blk_lt hc7
                  have kf := blk_frozen hc7 2
                  have hgh2 : hb ≠ g1 := fun e => hgh e.symm
                  have HST8 := Lib.hid hst7
                  clear hst7 hR7 hB7 hg7 hat7 hcells7 hc7 HST7 HR7 HC7 hrw he1 hcells6
                  go_wp2_with fail
                  exact ⟨⟨i, k + 1, done, some _, _, _, by omega, by omega, by go_num, by go_num, rfl, HST8.out, HAT6.out⟩, by simp [intOf]; omega⟩
        · have hknb : k = nb := by omega
          have hge0 : nb ≤ k := by omega
          have hge1 : (k : Int) ≥ (nb : Int) := by omega
          have hge2 : ¬ (k : Int) < (nb : Int) := by omega
          have HKNB := Lib.hid hknb
          clear hknb
          have hkeep : keepB a b i k = false := keep_out (fun h => hkn (by have := h.2; rw [HNB.out] at this; exact this))
          go_wp2_with fail
          go_quiet (fail)
          have HSTq := Lib.hid (HST.out.below hsz (below_drewN0 wr nq))
          have hszq : w.heap.size ≤ (wr.drewN nq).heap.size := hsz
          generalize wr.drewN nq = wq at *
          clear HST
          cases cur with
          | none =>
            have hbn := HBND.out
            have hl5 : done.length < 100000 := by omega
            clear hbn
            have HROW := Lib.hid (show wq.ownsRow w.heap.size 24 3 u6 done.length (hkCells done vo vn) by have := HSTq.out.hks.rows; simpa using this)
            go_wp2_with (at_builtin; go_loud (refine print_append_cells (w0 := w) (W := wq) w.heap.size rfl _ _ 28 24 (.agg #[.int .i64 0, .slice none 0 0, .slice none 0 0]) 3 56 rfl Try.underlying28 infoH rfl (by decide) (by decide) u6 done.length (hkCells done vo vn) [.int .i64 (k : Int), .slice none 0 0, .slice none 0 0] rfl rfl rfl ?hone2 ?HO2 ?HB2 ?hbase2 ?hl2 ?hk2))
            case hone2 =>
              intro u hu
              simp only [List.mem_cons, List.not_mem_nil, or_false] at hu
              rcases hu with rfl | rfl | rfl <;> rfl
            case HO2 => exact HROW.out
            case HB2 => exact HSTq.out.bel
            case hbase2 => exact hszq
            case hl2 => omega
            intro v1 w2 hrow2 hB2 hg2 hat2
            have hst2 := HSTq.out.snoc k hrow2 hg2 hB2
            obtain ⟨g, cap, rfl, hgc, hgb, hgl, cells, hcells⟩ := own_form hrow2 (by omega)
            generalize hvo : (fun i => if i = done.length then Value.slice none 0 0 else vo i) = vo1 at hst2
            generalize hvn : (fun i => if i = done.length then Value.slice none 0 0 else vn i) = vn1 at hst2
            have hx0 : openK k none = ⟨k, [], []⟩ := rfl
            rw [← hx0] at hst2
            have HST2 := Lib.hid hst2
            have hsz2 := hst2.bel.size
            clear hrow2 hB2 hg2 hat2 hst2 hvo hvn HSTq HROW hszq hx0 hcells
            obtain ⟨q0, q1, q2⟩ := HST2.out.hks.get g cap (by simp) (i := done.length) (by simp)
            rw [getD_last'] at q0
            have hRo := HST2.out.hks.old done.length (by simp)
            have hRn := HST2.out.hks.new done.length (by simp)
            rw [getD_last'] at hRo hRn
            obtain ⟨Ao, co, hvo, _, _, _⟩ := R_addr hRo
            obtain ⟨An, cn, hvn, _, _, _⟩ := R_addr hRn
            rw [hvo] at q1
            rw [hvn] at q2
            have HVO := Lib.hid hvo
            have HVN := Lib.hid hvn
            have HRO := Lib.hid hRo
            have HRN := Lib.hid hRn
            clear hvo hvn hRo hRn
            have hcost := open_cost k none
            have hfo : (openK k none).old.length ≤ 1200 := by have := HBND.out; omega
            have hfn : (openK k none).new.length ≤ 1200 := by have := HBND.out; omega
            have HFO := Lib.hid (And.intro hfo hfn)
            clear hcost hfo hfn
            have HOP := Lib.hid (show openK k none = openK k none from rfl)
            generalize hop : openK k none = op at *
            go_wp2_with fail
            generalize hcur : (none : Option (Hk ByteArray)) = cur at *
            have hopc : op = openK k cur := hop.symm
            clear HOP hop hcur
            have HOP := Lib.hid hopc
            clear hopc q0 q1 q2
            obtain ⟨W, hW⟩ : ∃ W, W = w2.alloc (.cells #[.int .i64 (op.pos : Int), .slice Ao op.old.length co, .slice An op.new.length cn] 24) := ⟨_, rfl⟩
            have hBW : Below w2.heap.size w2 W := by rw [hW]; exact (Below.refl _ _).alloc (Nat.le_refl _) _
            have hhb : W.heap[w2.heap.size]? = some (.cells #[.int .i64 (op.pos : Int), .slice Ao op.old.length co, .slice An op.new.length cn] 24 (0, 0)) := by rw [hW]; exact heap_alloc_new _ _
            rw [← hW]
            have hstW := HST2.out.below hsz2 hBW
            have hRoW := Kd.R_below HRO.out hBW
            have hRnW := Kd.R_below HRN.out hBW
            generalize hhbe : w2.heap.size = hb at *
            have hgh : g ≠ hb := by omega
            have hbs : w.heap.size ≤ hb := by omega
            clear hW hBW hhbe HST2 HRO HRN
            have HSTW := Lib.hid hstW
            have HHB := Lib.hid hhb
            have HROW := Lib.hid hRoW
            have HRNW := Lib.hid hRnW
            clear hstW hhb hRoW hRnW
            have hgo : goesB a b i k = true := goes_b (by rw [HNA.out]; exact hin) (by rw [HNB.out]; exact HKNB.out)
            go_wp2_with fail
            go_quiet (fail)
            have HSTW2 := Lib.hid (HSTW.out.below HSTW.out.bel.size (below_drewN0 W nq))
            have HHB2 := Lib.hid (show (W.drewN nq).heap[hb]? = some (.cells #[.int .i64 (op.pos : Int), .slice Ao op.old.length co, .slice An op.new.length cn] 24 (0, 0)) from HHB.out)
            have HR2 := Lib.hid (Kd.R_drewN HROW.out nq)
            generalize W.drewN nq = W2 at *
            clear HSTW HHB HROW HRNW
            obtain ⟨h1, hat5⟩ := at_del HAT.out (by rw [HNA.out]; exact hi) (by rw [HNB.out]; exact hk) (by rw [HNA.out, HNB.out]; exact HOR.out) hkeep hgo
            rw [takeOut_open, ← HOP.out] at hat5
            have h1n : i < na := by rw [← HNA.out]; exact h1
            clear hgo hkeep
            try clear x1 x2 y1 y2 l1 l2 lg2 hge hXY2
            try clear ca1 cb1
            obtain ⟨ae, hae, ca6⟩ := Kd.at_string (Kd.C_below HA.out HSTW2.out.bel) (i : Int) (by omega) (by omega)
            rw [rdOf_nat _ _ _ h1, Int.toNat_natCast] at ca6
            subst hae
            obtain ⟨x, hx⟩ : ∃ x, x = a[i] := ⟨_, rfl⟩
            rw [← hx] at ca6 hat5
            have HAT6 := Lib.hid hat5
            clear hx hat5
            obtain ⟨k0, k1, k2⟩ := head_cells HHB2.out
            have kl := blk_lt HHB2.out
            go_upto_region 16 with (fail)
            have hS := And.intro (Below.refl W2.heap.size W2) (And.intro k1 ca6)
            clear k0 k1 k2 ca6
            refine start_ (S := fun w' => Below W2.heap.size W2 w' ∧ w'.cell? ⟨hb, 1, none⟩ = some (.slice Ao op.old.length co) ∧ w'.cell? (ae.add i) = some (.string x)) (ds := [7, 8, 9]) (n := 10) #[false, false, false, false, false, false, false, false, false, false] rfl rfl rfl ?hS0 (fun hHeld => ?hrun)
            case hS0 => exact keep2 hS ((Below.refl _ _).drew)
            case hrun =>
              refine pure_ (i := 0) (N := some 111) (v := ?_) (a' := ?_) #[true, false, false, false, false, false, false, false, false, false] rfl rfl (by kernel_rfl) (fun _ _ _ h => h) (Or.inl ⟨by rfl, ?_⟩) ?_ ?_
              rotate_left
              · intro w'
                go_simp
                first | done | with_reducible rfl
              rotate_left
              · simp only [Act.put, List.setIfInBounds_toArray, List.set_cons_zero, List.set_cons_succ, i64_w, i32_w]
                rfl
              refine take_ (i := 1) (N := some 112) (v := ?_) (a' := ?_) #[true, true, false, false, false, false, false, false, false, false] rfl rfl (by kernel_rfl) (fun _ _ _ h => h) (Or.inl ⟨by rfl, ?_⟩) hHeld ?_ ?_
              rotate_left
              · rintro w' ⟨hbe, s0, s1⟩
                go_simp
                first | done | with_reducible rfl
              rotate_left
              · simp only [Act.put, List.setIfInBounds_toArray, List.set_cons_zero, List.set_cons_succ, i64_w, i32_w]
                rfl
              refine pure_ (i := 2) (N := some 113) (v := ?_) (a' := ?_) #[true, true, true, false, false, false, false, false, false, false] rfl rfl (by kernel_rfl) (fun _ _ _ h => h) (Or.inl ⟨by rfl, ?_⟩) ?_ ?_
              rotate_left
              · intro w'
                go_simp
                first | done | with_reducible rfl
              rotate_left
              · simp only [Act.put, List.setIfInBounds_toArray, List.set_cons_zero, List.set_cons_succ, i64_w, i32_w]
                rfl
              refine pure_ (i := 3) (N := some 114) (v := ?_) (a' := ?_) #[true, true, true, true, false, false, false, false, false, false] rfl rfl (by kernel_rfl) (fun _ _ _ h => h) (Or.inl ⟨by rfl, ?_⟩) ?_ ?_
              rotate_left
              · intro w'
                go_simp
                first | done | with_reducible rfl
              rotate_left
              · simp only [Act.put, List.setIfInBounds_toArray, List.set_cons_zero, List.set_cons_succ, i64_w, i32_w]
                rfl
              refine pure_ (i := 4) (N := some 115) (v := ?_) (a' := ?_) #[true, true, true, true, true, false, false, false, false, false] rfl rfl (by kernel_rfl) (fun _ _ _ h => h) (Or.inl ⟨by rfl, ?_⟩) ?_ ?_
              rotate_left
              · intro w'
                go_simp
                first | done | with_reducible rfl
              rotate_left
              · simp only [Act.put, List.setIfInBounds_toArray, List.set_cons_zero, List.set_cons_succ, i64_w, i32_w]
                rfl
              refine take_ (i := 5) (N := some 116) (v := ?_) (a' := ?_) #[true, true, true, true, true, true, false, false, false, false] rfl rfl (by kernel_rfl) (fun _ _ _ h => h) (Or.inl ⟨by rfl, ?_⟩) hHeld ?_ ?_
              rotate_left
              · rintro w' ⟨hbe, s0, s1⟩
                go_simp
                first | done | with_reducible rfl
              rotate_left
              · simp only [Act.put, List.setIfInBounds_toArray, List.set_cons_zero, List.set_cons_succ, i64_w, i32_w]
                rfl
              refine one_ (i := 6) (N := some 117) #[true, true, true, true, true, true, true, false, false, false] rfl rfl (by kernel_rfl) (by decide) (fun K hK => ?_)
              refine value_ (by rfl) rfl (by go_simp; first | rfl | exact ⟨rfl, rfl⟩) ?_
              refine hK.out _ _ (keep2 hHeld (below_alloc (Below.refl _ _) _)) (fun hHeld1 => ?_)
              clear hK K
              refine norm_ (a' := ?_) ?_ ?_
              rotate_left
              · show Act.put _ (some 117) _ = _
                simp only [Act.put, List.setIfInBounds_toArray, List.set_cons_zero, List.set_cons_succ, i64_w, i32_w]
                rfl
              refine tail_list 7 (t := [7, 8, 9]) (fuel := 0) rfl rfl rfl (by kernel_rfl) (by decide) ?_
              clear hS hHeld hHeld1
              obtain ⟨W0, hW0⟩ : ∃ W0, W0 = W2.drew := ⟨_, rfl⟩
              have hW1 : (W2.alloc (.cells #[.string x] 9)).drew = W0.alloc (.cells #[.string x] 9) := by rw [hW0]; rfl
              rw [hW1]
              have HSZ0 := Lib.hid (show W0.heap.size = W2.heap.size by rw [hW0]; rfl)
              have HST7 := Lib.hid (show RSt w W0 w.heap.size kg kc na nb a b blk done (some op) (.slice (some ⟨g, 0, none⟩) (done.length + 1) cap) vo1 vn1 by rw [hW0]; exact HSTW2.out.below HSTW2.out.bel.size (Below.refl _ _).drew)
              have HR7 := Lib.hid (show Kd.string.R 9 W0 w.heap.size (fun _ => True) (vo1 done.length) op.old by rw [hW0]; exact Kd.R_drew HR2.out)
              have HC7 := Lib.hid (show W0.heap[hb]? = some (.cells #[.int .i64 (op.pos : Int), .slice Ao op.old.length co, .slice An op.new.length cn] 24 (0, 0)) by rw [hW0]; exact HHB2.out)
              clear hW1 hW0 HSTW2 HR2 HHB2 kl
              show wpList _ _ _ (_ :: _) _ _
              refine (Kd.R_append Kd.string (w0 := w) (W := W0) w.heap.size rfl _ _ 22 9 (.string ⟨#[]⟩) 16 rfl Try.underlying22 infoS rfl (by decide) (by decide) (vo1 done.length) op.old x [.string x] (fun _ => True) (fun _ => False) (by rw [HVO.out]; rfl) (by rw [HSZ0.out]; rfl) rfl (fun _ h => h.elim) (fun _ _ => trivial) HR7.out HST7.out.bel HST7.out.bel.size (by have := HFO.out; omega) ?_)
              intro v1 w7 hR7 hB7 hg7 hat7
              have hst7 := HST7.out.whole_old HC7.out hgh hbs hR7 hB7 hg7 hat7
              obtain ⟨Av, cv, rfl, _, _, _⟩ := R_addr hR7
              have el : (op.old ++ [x]).length = op.old.length + 1 := by simp
              rw [el] at hst7 hR7 ⊢
              rw [HVN.out] at hst7
              clear el
              have hc7 : w7.heap[hb]? = some (.cells #[.int .i64 (op.pos : Int), .slice Ao op.old.length co, .slice An op.new.length cn] 24 (0, 0)) := (hg7.block hb (blk_lt HC7.out) (Kd.R_ne HR7.out HC7.out (by decide))).trans HC7.out
              have hrw := HST7.out.hks.rows
              rw [show (done ++ (some op).toList).length = done.length + 1 by simp] at hrw
              obtain ⟨g1, c1, he1, hcp1, _, _, cells6, hcells6⟩ := own_form hrw (by omega)
              have hgg : g1 = g := by injection he1 with he1; injection he1 with he1; injection he1 with he1; exact he1.symm
              subst hgg
              have hcells7 : w7.heap[g1]? = some (.cells cells6 24 (0, 0)) := (hg7.block g1 (blk_lt hcells6) (Kd.R_ne HR7.out hcells6 (by decide))).trans hcells6
              obtain ⟨q0, q1, q2⟩ := HST7.out.hks.get g1 cap (by simp) (i := done.length) (by simp)
              rw [blk_cell hcells6, ← blk_cell hcells7] at q0 q1 q2
              have p0 := blk_frozen hcells7 (done.length * 3)
              have p1 := blk_frozen hcells7 (done.length * 3 + 1)
              have p2 := blk_frozen hcells7 (done.length * 3 + 2)
              have lg7 := blk_lt hcells7
              obtain ⟨k0, k1, k2⟩ := head_cells hc7
              have kl := blk_lt hc7
              have kf := blk_frozen hc7 1
              have hgh2 : hb ≠ g1 := fun e => hgh e.symm
              have HST8 := Lib.hid hst7
              clear hst7 hR7 hB7 hg7 hat7 hcells7 hc7 HST7 HR7 HC7 hrw he1 hcells6
              go_wp2_with fail
              exact ⟨⟨i + 1, k, done, some _, _, _, by omega, by omega, by go_num, by go_num, rfl, HST8.out, HAT6.out⟩, by simp [intOf]; omega⟩
          | some x0 =>
            have hbn := HBND.out
            have hl5 : done.length < 100000 := by omega
            clear hbn
            have hrow2 := HSTq.out.hks.rows
            rw [show (done ++ (some x0).toList).length = done.length + 1 by simp] at hrow2
            obtain ⟨g, cap, rfl, hgc, hgb, hgl, cells, hcells⟩ := own_form hrow2 (by omega)
            have hx0 : openK k (some x0) = x0 := rfl
            have HST2 := Lib.hid (show RSt w wq w.heap.size kg kc na nb a b blk done (some (openK k (some x0))) (.slice (some ⟨g, 0, none⟩) (done.length + 1) cap) vo vn from HSTq.out)
            have hsz2 := hszq
            generalize wq = w2 at *
            generalize vo = vo1 at *
            generalize vn = vn1 at *
            clear hrow2 HSTq hszq hx0 hcells
            obtain ⟨q0, q1, q2⟩ := HST2.out.hks.get g cap (by simp) (i := done.length) (by simp)
            rw [getD_last'] at q0
            have hRo := HST2.out.hks.old done.length (by simp)
            have hRn := HST2.out.hks.new done.length (by simp)
            rw [getD_last'] at hRo hRn
            obtain ⟨Ao, co, hvo, _, _, _⟩ := R_addr hRo
            obtain ⟨An, cn, hvn, _, _, _⟩ := R_addr hRn
            rw [hvo] at q1
            rw [hvn] at q2
            have HVO := Lib.hid hvo
            have HVN := Lib.hid hvn
            have HRO := Lib.hid hRo
            have HRN := Lib.hid hRn
            clear hvo hvn hRo hRn
            have hcost := open_cost k (some x0)
            have hfo : (openK k (some x0)).old.length ≤ 1200 := by have := HBND.out; omega
            have hfn : (openK k (some x0)).new.length ≤ 1200 := by have := HBND.out; omega
            have HFO := Lib.hid (And.intro hfo hfn)
            clear hcost hfo hfn
            have HOP := Lib.hid (show openK k (some x0) = openK k (some x0) from rfl)
            generalize hop : openK k (some x0) = op at *
            go_wp2_with fail
            generalize hcur : some x0 = cur at *
            have hopc : op = openK k cur := hop.symm
            clear HOP hop hcur
            have HOP := Lib.hid hopc
            clear hopc q0 q1 q2
            obtain ⟨W, hW⟩ : ∃ W, W = w2.alloc (.cells #[.int .i64 (op.pos : Int), .slice Ao op.old.length co, .slice An op.new.length cn] 24) := ⟨_, rfl⟩
            have hBW : Below w2.heap.size w2 W := by rw [hW]; exact (Below.refl _ _).alloc (Nat.le_refl _) _
            have hhb : W.heap[w2.heap.size]? = some (.cells #[.int .i64 (op.pos : Int), .slice Ao op.old.length co, .slice An op.new.length cn] 24 (0, 0)) := by rw [hW]; exact heap_alloc_new _ _
            rw [← hW]
            have hstW := HST2.out.below hsz2 hBW
            have hRoW := Kd.R_below HRO.out hBW
            have hRnW := Kd.R_below HRN.out hBW
            generalize hhbe : w2.heap.size = hb at *
            have hgh : g ≠ hb := by omega
            have hbs : w.heap.size ≤ hb := by omega
            clear hW hBW hhbe HST2 HRO HRN
            have HSTW := Lib.hid hstW
            have HHB := Lib.hid hhb
            have HROW := Lib.hid hRoW
            have HRNW := Lib.hid hRnW
            clear hstW hhb hRoW hRnW
            have hgo : goesB a b i k = true := goes_b (by rw [HNA.out]; exact hin) (by rw [HNB.out]; exact HKNB.out)
            go_wp2_with fail
            go_quiet (fail)
            have HSTW2 := Lib.hid (HSTW.out.below HSTW.out.bel.size (below_drewN0 W nq))
            have HHB2 := Lib.hid (show (W.drewN nq).heap[hb]? = some (.cells #[.int .i64 (op.pos : Int), .slice Ao op.old.length co, .slice An op.new.length cn] 24 (0, 0)) from HHB.out)
            have HR2 := Lib.hid (Kd.R_drewN HROW.out nq)
            generalize W.drewN nq = W2 at *
            clear HSTW HHB HROW HRNW
            obtain ⟨h1, hat5⟩ := at_del HAT.out (by rw [HNA.out]; exact hi) (by rw [HNB.out]; exact hk) (by rw [HNA.out, HNB.out]; exact HOR.out) hkeep hgo
            rw [takeOut_open, ← HOP.out] at hat5
            have h1n : i < na := by rw [← HNA.out]; exact h1
            clear hgo hkeep
            try clear x1 x2 y1 y2 l1 l2 lg2 hge hXY2
            try clear ca1 cb1
            obtain ⟨ae, hae, ca6⟩ := Kd.at_string (Kd.C_below HA.out HSTW2.out.bel) (i : Int) (by omega) (by omega)
            rw [rdOf_nat _ _ _ h1, Int.toNat_natCast] at ca6
            subst hae
            obtain ⟨x, hx⟩ : ∃ x, x = a[i] := ⟨_, rfl⟩
            rw [← hx] at ca6 hat5
            have HAT6 := Lib.hid hat5
            clear hx hat5
            obtain ⟨k0, k1, k2⟩ := head_cells HHB2.out
            have kl := blk_lt HHB2.out
            go_upto_region 16 with (fail)
            have hS := And.intro (Below.refl W2.heap.size W2) (And.intro k1 ca6)
            clear k0 k1 k2 ca6
            refine start_ (S := fun w' => Below W2.heap.size W2 w' ∧ w'.cell? ⟨hb, 1, none⟩ = some (.slice Ao op.old.length co) ∧ w'.cell? (ae.add i) = some (.string x)) (ds := [7, 8, 9]) (n := 10) #[false, false, false, false, false, false, false, false, false, false] rfl rfl rfl ?hS0 (fun hHeld => ?hrun)
            case hS0 => exact keep2 hS ((Below.refl _ _).drew)
            case hrun =>
              refine pure_ (i := 0) (N := some 111) (v := ?_) (a' := ?_) #[true, false, false, false, false, false, false, false, false, false] rfl rfl (by kernel_rfl) (fun _ _ _ h => h) (Or.inl ⟨by rfl, ?_⟩) ?_ ?_
              rotate_left
              · intro w'
                go_simp
                first | done | with_reducible rfl
              rotate_left
              · simp only [Act.put, List.setIfInBounds_toArray, List.set_cons_zero, List.set_cons_succ, i64_w, i32_w]
                rfl
              refine take_ (i := 1) (N := some 112) (v := ?_) (a' := ?_) #[true, true, false, false, false, false, false, false, false, false] rfl rfl (by kernel_rfl) (fun _ _ _ h => h) (Or.inl ⟨by rfl, ?_⟩) hHeld ?_ ?_
              rotate_left
              · rintro w' ⟨hbe, s0, s1⟩
                go_simp
                first | done | with_reducible rfl
              rotate_left
              · simp only [Act.put, List.setIfInBounds_toArray, List.set_cons_zero, List.set_cons_succ, i64_w, i32_w]
                rfl
              refine pure_ (i := 2) (N := some 113) (v := ?_) (a' := ?_) #[true, true, true, false, false, false, false, false, false, false] rfl rfl (by kernel_rfl) (fun _ _ _ h => h) (Or.inl ⟨by rfl, ?_⟩) ?_ ?_
              rotate_left
              · intro w'
                go_simp
                first | done | with_reducible rfl
              rotate_left
              · simp only [Act.put, List.setIfInBounds_toArray, List.set_cons_zero, List.set_cons_succ, i64_w, i32_w]
                rfl
              refine pure_ (i := 3) (N := some 114) (v := ?_) (a' := ?_) #[true, true, true, true, false, false, false, false, false, false] rfl rfl (by kernel_rfl) (fun _ _ _ h => h) (Or.inl ⟨by rfl, ?_⟩) ?_ ?_
              rotate_left
              · intro w'
                go_simp
                first | done | with_reducible rfl
              rotate_left
              · simp only [Act.put, List.setIfInBounds_toArray, List.set_cons_zero, List.set_cons_succ, i64_w, i32_w]
                rfl
              refine pure_ (i := 4) (N := some 115) (v := ?_) (a' := ?_) #[true, true, true, true, true, false, false, false, false, false] rfl rfl (by kernel_rfl) (fun _ _ _ h => h) (Or.inl ⟨by rfl, ?_⟩) ?_ ?_
              rotate_left
              · intro w'
                go_simp
                first | done | with_reducible rfl
              rotate_left
              · simp only [Act.put, List.setIfInBounds_toArray, List.set_cons_zero, List.set_cons_succ, i64_w, i32_w]
                rfl
              refine take_ (i := 5) (N := some 116) (v := ?_) (a' := ?_) #[true, true, true, true, true, true, false, false, false, false] rfl rfl (by kernel_rfl) (fun _ _ _ h => h) (Or.inl ⟨by rfl, ?_⟩) hHeld ?_ ?_
              rotate_left
              · rintro w' ⟨hbe, s0, s1⟩
                go_simp
                first | done | with_reducible rfl
              rotate_left
              · simp only [Act.put, List.setIfInBounds_toArray, List.set_cons_zero, List.set_cons_succ, i64_w, i32_w]
                rfl
              refine one_ (i := 6) (N := some 117) #[true, true, true, true, true, true, true, false, false, false] rfl rfl (by kernel_rfl) (by decide) (fun K hK => ?_)
              refine value_ (by rfl) rfl (by go_simp; first | rfl | exact ⟨rfl, rfl⟩) ?_
              refine hK.out _ _ (keep2 hHeld (below_alloc (Below.refl _ _) _)) (fun hHeld1 => ?_)
              clear hK K
              refine norm_ (a' := ?_) ?_ ?_
              rotate_left
              · show Act.put _ (some 117) _ = _
                simp only [Act.put, List.setIfInBounds_toArray, List.set_cons_zero, List.set_cons_succ, i64_w, i32_w]
                rfl
              refine tail_list 7 (t := [7, 8, 9]) (fuel := 0) rfl rfl rfl (by kernel_rfl) (by decide) ?_
              clear hS hHeld hHeld1
              obtain ⟨W0, hW0⟩ : ∃ W0, W0 = W2.drew := ⟨_, rfl⟩
              have hW1 : (W2.alloc (.cells #[.string x] 9)).drew = W0.alloc (.cells #[.string x] 9) := by rw [hW0]; rfl
              rw [hW1]
              have HSZ0 := Lib.hid (show W0.heap.size = W2.heap.size by rw [hW0]; rfl)
              have HST7 := Lib.hid (show RSt w W0 w.heap.size kg kc na nb a b blk done (some op) (.slice (some ⟨g, 0, none⟩) (done.length + 1) cap) vo1 vn1 by rw [hW0]; exact HSTW2.out.below HSTW2.out.bel.size (Below.refl _ _).drew)
              have HR7 := Lib.hid (show Kd.string.R 9 W0 w.heap.size (fun _ => True) (vo1 done.length) op.old by rw [hW0]; exact Kd.R_drew HR2.out)
              have HC7 := Lib.hid (show W0.heap[hb]? = some (.cells #[.int .i64 (op.pos : Int), .slice Ao op.old.length co, .slice An op.new.length cn] 24 (0, 0)) by rw [hW0]; exact HHB2.out)
              clear hW1 hW0 HSTW2 HR2 HHB2 kl
              show wpList _ _ _ (_ :: _) _ _
              refine (Kd.R_append Kd.string (w0 := w) (W := W0) w.heap.size rfl _ _ 22 9 (.string ⟨#[]⟩) 16 rfl Try.underlying22 infoS rfl (by decide) (by decide) (vo1 done.length) op.old x [.string x] (fun _ => True) (fun _ => False) (by rw [HVO.out]; rfl) (by rw [HSZ0.out]; rfl) rfl (fun _ h => h.elim) (fun _ _ => trivial) HR7.out HST7.out.bel HST7.out.bel.size (by have := HFO.out; omega) ?_)
              intro v1 w7 hR7 hB7 hg7 hat7
              have hst7 := HST7.out.whole_old HC7.out hgh hbs hR7 hB7 hg7 hat7
              obtain ⟨Av, cv, rfl, _, _, _⟩ := R_addr hR7
              have el : (op.old ++ [x]).length = op.old.length + 1 := by simp
              rw [el] at hst7 hR7 ⊢
              rw [HVN.out] at hst7
              clear el
              have hc7 : w7.heap[hb]? = some (.cells #[.int .i64 (op.pos : Int), .slice Ao op.old.length co, .slice An op.new.length cn] 24 (0, 0)) := (hg7.block hb (blk_lt HC7.out) (Kd.R_ne HR7.out HC7.out (by decide))).trans HC7.out
              have hrw := HST7.out.hks.rows
              rw [show (done ++ (some op).toList).length = done.length + 1 by simp] at hrw
              obtain ⟨g1, c1, he1, hcp1, _, _, cells6, hcells6⟩ := own_form hrw (by omega)
              have hgg : g1 = g := by injection he1 with he1; injection he1 with he1; injection he1 with he1; exact he1.symm
              subst hgg
              have hcells7 : w7.heap[g1]? = some (.cells cells6 24 (0, 0)) := (hg7.block g1 (blk_lt hcells6) (Kd.R_ne HR7.out hcells6 (by decide))).trans hcells6
              obtain ⟨q0, q1, q2⟩ := HST7.out.hks.get g1 cap (by simp) (i := done.length) (by simp)
              rw [blk_cell hcells6, ← blk_cell hcells7] at q0 q1 q2
              have p0 := blk_frozen hcells7 (done.length * 3)
              have p1 := blk_frozen hcells7 (done.length * 3 + 1)
              have p2 := blk_frozen hcells7 (done.length * 3 + 2)
              have lg7 := blk_lt hcells7
              obtain ⟨k0, k1, k2⟩ := head_cells hc7
              have kl := blk_lt hc7
              have kf := blk_frozen hc7 1
              have hgh2 : hb ≠ g1 := fun e => hgh e.symm
              have HST8 := Lib.hid hst7
              clear hst7 hR7 hB7 hg7 hat7 hcells7 hc7 HST7 HR7 HC7 hrw he1 hcells6
              go_wp2_with fail
              exact ⟨⟨i + 1, k, done, some _, _, _, by omega, by omega, by go_num, by go_num, rfl, HST8.out, HAT6.out⟩, by simp [intOf]; omega⟩
      · have hina : i = na := by omega
        have hin2 : ¬ (i : Int) < (na : Int) := by omega
        have HINA := Lib.hid hina
        have hkn : k < nb := by have := HOR.out; omega
        clear hina
        have hkeep : keepB a b i k = false := keep_out (fun h => hin (by have := h.1; rw [HNA.out] at this; exact this))
        go_wp2_with fail
        go_quiet (fail)
        have HSTq := Lib.hid (HST.out.below hsz (below_drewN0 wr nq))
        have hszq : w.heap.size ≤ (wr.drewN nq).heap.size := hsz
        generalize wr.drewN nq = wq at *
        clear HST
        cases cur with
        | none =>
          have hbn := HBND.out
          have hl5 : done.length < 100000 := by omega
          clear hbn
          have HROW := Lib.hid (show wq.ownsRow w.heap.size 24 3 u6 done.length (hkCells done vo vn) by have := HSTq.out.hks.rows; simpa using this)
          go_wp2_with (at_builtin; go_loud (refine print_append_cells (w0 := w) (W := wq) w.heap.size rfl _ _ 28 24 (.agg #[.int .i64 0, .slice none 0 0, .slice none 0 0]) 3 56 rfl Try.underlying28 infoH rfl (by decide) (by decide) u6 done.length (hkCells done vo vn) [.int .i64 (k : Int), .slice none 0 0, .slice none 0 0] rfl rfl rfl ?hone3 ?HO3 ?HB3 ?hbase3 ?hl3 ?hk3))
          case hone3 =>
            intro u hu
            simp only [List.mem_cons, List.not_mem_nil, or_false] at hu
            rcases hu with rfl | rfl | rfl <;> rfl
          case HO3 => exact HROW.out
          case HB3 => exact HSTq.out.bel
          case hbase3 => exact hszq
          case hl3 => omega
          intro v1 w2 hrow2 hB2 hg2 hat2
          have hst2 := HSTq.out.snoc k hrow2 hg2 hB2
          obtain ⟨g, cap, rfl, hgc, hgb, hgl, cells, hcells⟩ := own_form hrow2 (by omega)
          generalize hvo : (fun i => if i = done.length then Value.slice none 0 0 else vo i) = vo1 at hst2
          generalize hvn : (fun i => if i = done.length then Value.slice none 0 0 else vn i) = vn1 at hst2
          have hx0 : openK k none = ⟨k, [], []⟩ := rfl
          rw [← hx0] at hst2
          have HST2 := Lib.hid hst2
          have hsz2 := hst2.bel.size
          clear hrow2 hB2 hg2 hat2 hst2 hvo hvn HSTq HROW hszq hx0 hcells
          obtain ⟨q0, q1, q2⟩ := HST2.out.hks.get g cap (by simp) (i := done.length) (by simp)
          rw [getD_last'] at q0
          have hRo := HST2.out.hks.old done.length (by simp)
          have hRn := HST2.out.hks.new done.length (by simp)
          rw [getD_last'] at hRo hRn
          obtain ⟨Ao, co, hvo, _, _, _⟩ := R_addr hRo
          obtain ⟨An, cn, hvn, _, _, _⟩ := R_addr hRn
          rw [hvo] at q1
          rw [hvn] at q2
          have HVO := Lib.hid hvo
          have HVN := Lib.hid hvn
          have HRO := Lib.hid hRo
          have HRN := Lib.hid hRn
          clear hvo hvn hRo hRn
          have hcost := open_cost k none
          have hfo : (openK k none).old.length ≤ 1200 := by have := HBND.out; omega
          have hfn : (openK k none).new.length ≤ 1200 := by have := HBND.out; omega
          have HFO := Lib.hid (And.intro hfo hfn)
          clear hcost hfo hfn
          have HOP := Lib.hid (show openK k none = openK k none from rfl)
          generalize hop : openK k none = op at *
          go_wp2_with fail
          generalize hcur : (none : Option (Hk ByteArray)) = cur at *
          have hopc : op = openK k cur := hop.symm
          clear HOP hop hcur
          have HOP := Lib.hid hopc
          clear hopc q0 q1 q2
          obtain ⟨W, hW⟩ : ∃ W, W = w2.alloc (.cells #[.int .i64 (op.pos : Int), .slice Ao op.old.length co, .slice An op.new.length cn] 24) := ⟨_, rfl⟩
          have hBW : Below w2.heap.size w2 W := by rw [hW]; exact (Below.refl _ _).alloc (Nat.le_refl _) _
          have hhb : W.heap[w2.heap.size]? = some (.cells #[.int .i64 (op.pos : Int), .slice Ao op.old.length co, .slice An op.new.length cn] 24 (0, 0)) := by rw [hW]; exact heap_alloc_new _ _
          rw [← hW]
          have hstW := HST2.out.below hsz2 hBW
          have hRoW := Kd.R_below HRO.out hBW
          have hRnW := Kd.R_below HRN.out hBW
          generalize hhbe : w2.heap.size = hb at *
          have hgh : g ≠ hb := by omega
          have hbs : w.heap.size ≤ hb := by omega
          clear hW hBW hhbe HST2 HRO HRN
          have HSTW := Lib.hid hstW
          have HHB := Lib.hid hhb
          have HROW := Lib.hid hRoW
          have HRNW := Lib.hid hRnW
          clear hstW hhb hRoW hRnW
          have dk2 : ¬ nb ≤ k := by omega
          have dk3 : ¬ (k : Int) ≥ (nb : Int) := by omega
          have hgo : goesB a b i k = false := goes_a (by rw [HNA.out]; exact HINA.out) (by rw [HNB.out]; exact hkn)
          go_wp2_with fail
          go_quiet (fail)
          have HSTW2 := Lib.hid (HSTW.out.below HSTW.out.bel.size (below_drewN0 W nq))
          have HHB2 := Lib.hid (show (W.drewN nq).heap[hb]? = some (.cells #[.int .i64 (op.pos : Int), .slice Ao op.old.length co, .slice An op.new.length cn] 24 (0, 0)) from HHB.out)
          have HR2 := Lib.hid (Kd.R_drewN HRNW.out nq)
          generalize W.drewN nq = W2 at *
          clear HSTW HHB HROW HRNW
          obtain ⟨h2, hat5⟩ := at_ins HAT.out (by rw [HNA.out]; exact hi) (by rw [HNB.out]; exact hk) (by rw [HNA.out, HNB.out]; exact HOR.out) hkeep hgo
          rw [putIn_open, ← HOP.out] at hat5
          have h1n : k < nb := by rw [← HNB.out]; exact h2
          clear hgo hkeep
          try clear x1 x2 y1 y2 l1 l2 lg2 hge hXY2
          try clear ca1 cb1
          obtain ⟨ae, hae, ca6⟩ := Kd.at_string (Kd.C_below HB.out HSTW2.out.bel) (k : Int) (by omega) (by omega)
          rw [rdOf_nat _ _ _ h2, Int.toNat_natCast] at ca6
          subst hae
          obtain ⟨x, hx⟩ : ∃ x, x = b[k] := ⟨_, rfl⟩
          rw [← hx] at ca6 hat5
          have HAT6 := Lib.hid hat5
          clear hx hat5
          obtain ⟨k0, k1, k2⟩ := head_cells HHB2.out
          have kl := blk_lt HHB2.out
          go_upto_region 18 with (fail)
          have hS := And.intro (Below.refl W2.heap.size W2) (And.intro k2 ca6)
          clear k0 k1 k2 ca6
          refine start_ (S := fun w' => Below W2.heap.size W2 w' ∧ w'.cell? ⟨hb, 2, none⟩ = some (.slice An op.new.length cn) ∧ w'.cell? (ae.add k) = some (.string x)) (ds := [7, 8, 9]) (n := 10) #[false, false, false, false, false, false, false, false, false, false] rfl rfl rfl ?hS0 (fun hHeld => ?hrun)
          case hS0 => exact keep2 hS ((Below.refl _ _).drew)
          case hrun =>
            refine pure_ (i := 0) (N := some 122) (v := ?_) (a' := ?_) #[true, false, false, false, false, false, false, false, false, false] rfl rfl (by kernel_rfl) (fun _ _ _ h => h) (Or.inl ⟨by rfl, ?_⟩) ?_ ?_
            rotate_left
            · intro w'
              go_simp
              first | done | with_reducible rfl
            rotate_left
            · simp only [Act.put, List.setIfInBounds_toArray, List.set_cons_zero, List.set_cons_succ, i64_w, i32_w]
              rfl
            refine take_ (i := 1) (N := some 123) (v := ?_) (a' := ?_) #[true, true, false, false, false, false, false, false, false, false] rfl rfl (by kernel_rfl) (fun _ _ _ h => h) (Or.inl ⟨by rfl, ?_⟩) hHeld ?_ ?_
            rotate_left
            · rintro w' ⟨hbe, s0, s1⟩
              go_simp
              first | done | with_reducible rfl
            rotate_left
            · simp only [Act.put, List.setIfInBounds_toArray, List.set_cons_zero, List.set_cons_succ, i64_w, i32_w]
              rfl
            refine pure_ (i := 2) (N := some 124) (v := ?_) (a' := ?_) #[true, true, true, false, false, false, false, false, false, false] rfl rfl (by kernel_rfl) (fun _ _ _ h => h) (Or.inl ⟨by rfl, ?_⟩) ?_ ?_
            rotate_left
            · intro w'
              go_simp
              first | done | with_reducible rfl
            rotate_left
            · simp only [Act.put, List.setIfInBounds_toArray, List.set_cons_zero, List.set_cons_succ, i64_w, i32_w]
              rfl
            refine pure_ (i := 3) (N := some 125) (v := ?_) (a' := ?_) #[true, true, true, true, false, false, false, false, false, false] rfl rfl (by kernel_rfl) (fun _ _ _ h => h) (Or.inl ⟨by rfl, ?_⟩) ?_ ?_
            rotate_left
            · intro w'
              go_simp
              first | done | with_reducible rfl
            rotate_left
            · simp only [Act.put, List.setIfInBounds_toArray, List.set_cons_zero, List.set_cons_succ, i64_w, i32_w]
              rfl
            refine pure_ (i := 4) (N := some 126) (v := ?_) (a' := ?_) #[true, true, true, true, true, false, false, false, false, false] rfl rfl (by kernel_rfl) (fun _ _ _ h => h) (Or.inl ⟨by rfl, ?_⟩) ?_ ?_
            rotate_left
            · intro w'
              go_simp
              first | done | with_reducible rfl
            rotate_left
            · simp only [Act.put, List.setIfInBounds_toArray, List.set_cons_zero, List.set_cons_succ, i64_w, i32_w]
              rfl
            refine take_ (i := 5) (N := some 127) (v := ?_) (a' := ?_) #[true, true, true, true, true, true, false, false, false, false] rfl rfl (by kernel_rfl) (fun _ _ _ h => h) (Or.inl ⟨by rfl, ?_⟩) hHeld ?_ ?_
            rotate_left
            · rintro w' ⟨hbe, s0, s1⟩
              go_simp
              first | done | with_reducible rfl
            rotate_left
            · simp only [Act.put, List.setIfInBounds_toArray, List.set_cons_zero, List.set_cons_succ, i64_w, i32_w]
              rfl
            refine one_ (i := 6) (N := some 128) #[true, true, true, true, true, true, true, false, false, false] rfl rfl (by kernel_rfl) (by decide) (fun K hK => ?_)
            refine value_ (by rfl) rfl (by go_simp; first | rfl | exact ⟨rfl, rfl⟩) ?_
            refine hK.out _ _ (keep2 hHeld (below_alloc (Below.refl _ _) _)) (fun hHeld1 => ?_)
            clear hK K
            refine norm_ (a' := ?_) ?_ ?_
            rotate_left
            · show Act.put _ (some 128) _ = _
              simp only [Act.put, List.setIfInBounds_toArray, List.set_cons_zero, List.set_cons_succ, i64_w, i32_w]
              rfl
            refine tail_list 7 (t := [7, 8, 9]) (fuel := 0) rfl rfl rfl (by kernel_rfl) (by decide) ?_
            clear hS hHeld hHeld1
            obtain ⟨W0, hW0⟩ : ∃ W0, W0 = W2.drew := ⟨_, rfl⟩
            have hW1 : (W2.alloc (.cells #[.string x] 9)).drew = W0.alloc (.cells #[.string x] 9) := by rw [hW0]; rfl
            rw [hW1]
            have HSZ0 := Lib.hid (show W0.heap.size = W2.heap.size by rw [hW0]; rfl)
            have HST7 := Lib.hid (show RSt w W0 w.heap.size kg kc na nb a b blk done (some op) (.slice (some ⟨g, 0, none⟩) (done.length + 1) cap) vo1 vn1 by rw [hW0]; exact HSTW2.out.below HSTW2.out.bel.size (Below.refl _ _).drew)
            have HR7 := Lib.hid (show Kd.string.R 9 W0 w.heap.size (fun _ => True) (vn1 done.length) op.new by rw [hW0]; exact Kd.R_drew HR2.out)
            have HC7 := Lib.hid (show W0.heap[hb]? = some (.cells #[.int .i64 (op.pos : Int), .slice Ao op.old.length co, .slice An op.new.length cn] 24 (0, 0)) by rw [hW0]; exact HHB2.out)
            clear hW1 hW0 HSTW2 HR2 HHB2 kl
            show wpList _ _ _ (_ :: _) _ _
            refine (Kd.R_append Kd.string (w0 := w) (W := W0) w.heap.size rfl _ _ 22 9 (.string ⟨#[]⟩) 16 rfl Try.underlying22 infoS rfl (by decide) (by decide) (vn1 done.length) op.new x [.string x] (fun _ => True) (fun _ => False) (by rw [HVN.out]; rfl) (by rw [HSZ0.out]; rfl) rfl (fun _ h => h.elim) (fun _ _ => trivial) HR7.out HST7.out.bel HST7.out.bel.size (by have := HFO.out; omega) ?_)
            intro v1 w7 hR7 hB7 hg7 hat7
            have hst7 := HST7.out.whole_new HC7.out hgh hbs hR7 hB7 hg7 hat7
            obtain ⟨Av, cv, rfl, _, _, _⟩ := R_addr hR7
            have el : (op.new ++ [x]).length = op.new.length + 1 := by simp
            rw [el] at hst7 hR7 ⊢
            rw [HVO.out] at hst7
            clear el
            have hc7 : w7.heap[hb]? = some (.cells #[.int .i64 (op.pos : Int), .slice Ao op.old.length co, .slice An op.new.length cn] 24 (0, 0)) := (hg7.block hb (blk_lt HC7.out) (Kd.R_ne HR7.out HC7.out (by decide))).trans HC7.out
            have hrw := HST7.out.hks.rows
            rw [show (done ++ (some op).toList).length = done.length + 1 by simp] at hrw
            obtain ⟨g1, c1, he1, hcp1, _, _, cells6, hcells6⟩ := own_form hrw (by omega)
            have hgg : g1 = g := by injection he1 with he1; injection he1 with he1; injection he1 with he1; exact he1.symm
            subst hgg
            have hcells7 : w7.heap[g1]? = some (.cells cells6 24 (0, 0)) := (hg7.block g1 (blk_lt hcells6) (Kd.R_ne HR7.out hcells6 (by decide))).trans hcells6
            obtain ⟨q0, q1, q2⟩ := HST7.out.hks.get g1 cap (by simp) (i := done.length) (by simp)
            rw [blk_cell hcells6, ← blk_cell hcells7] at q0 q1 q2
            have p0 := blk_frozen hcells7 (done.length * 3)
            have p1 := blk_frozen hcells7 (done.length * 3 + 1)
            have p2 := blk_frozen hcells7 (done.length * 3 + 2)
            have lg7 := blk_lt hcells7
            obtain ⟨k0, k1, k2⟩ := head_cells hc7
            have kl := blk_lt hc7
            have kf := blk_frozen hc7 2
            have hgh2 : hb ≠ g1 := fun e => hgh e.symm
            have HST8 := Lib.hid hst7
            clear hst7 hR7 hB7 hg7 hat7 hcells7 hc7 HST7 HR7 HC7 hrw he1 hcells6
            go_wp2_with fail
            exact ⟨⟨i, k + 1, done, some _, _, _, by omega, by omega, by go_num, by go_num, rfl, HST8.out, HAT6.out⟩, by simp [intOf]; omega⟩
        | some x0 =>
          have hbn := HBND.out
          have hl5 : done.length < 100000 := by omega
          clear hbn
          have hrow2 := HSTq.out.hks.rows
          rw [show (done ++ (some x0).toList).length = done.length + 1 by simp] at hrow2
          obtain ⟨g, cap, rfl, hgc, hgb, hgl, cells, hcells⟩ := own_form hrow2 (by omega)
          have hx0 : openK k (some x0) = x0 := rfl
          have HST2 := Lib.hid (show RSt w wq w.heap.size kg kc na nb a b blk done (some (openK k (some x0))) (.slice (some ⟨g, 0, none⟩) (done.length + 1) cap) vo vn from HSTq.out)
          have hsz2 := hszq
          generalize wq = w2 at *
          generalize vo = vo1 at *
          generalize vn = vn1 at *
          clear hrow2 HSTq hszq hx0 hcells
          obtain ⟨q0, q1, q2⟩ := HST2.out.hks.get g cap (by simp) (i := done.length) (by simp)
          rw [getD_last'] at q0
          have hRo := HST2.out.hks.old done.length (by simp)
          have hRn := HST2.out.hks.new done.length (by simp)
          rw [getD_last'] at hRo hRn
          obtain ⟨Ao, co, hvo, _, _, _⟩ := R_addr hRo
          obtain ⟨An, cn, hvn, _, _, _⟩ := R_addr hRn
          rw [hvo] at q1
          rw [hvn] at q2
          have HVO := Lib.hid hvo
          have HVN := Lib.hid hvn
          have HRO := Lib.hid hRo
          have HRN := Lib.hid hRn
          clear hvo hvn hRo hRn
          have hcost := open_cost k (some x0)
          have hfo : (openK k (some x0)).old.length ≤ 1200 := by have := HBND.out; omega
          have hfn : (openK k (some x0)).new.length ≤ 1200 := by have := HBND.out; omega
          have HFO := Lib.hid (And.intro hfo hfn)
          clear hcost hfo hfn
          have HOP := Lib.hid (show openK k (some x0) = openK k (some x0) from rfl)
          generalize hop : openK k (some x0) = op at *
          go_wp2_with fail
          generalize hcur : some x0 = cur at *
          have hopc : op = openK k cur := hop.symm
          clear HOP hop hcur
          have HOP := Lib.hid hopc
          clear hopc q0 q1 q2
          obtain ⟨W, hW⟩ : ∃ W, W = w2.alloc (.cells #[.int .i64 (op.pos : Int), .slice Ao op.old.length co, .slice An op.new.length cn] 24) := ⟨_, rfl⟩
          have hBW : Below w2.heap.size w2 W := by rw [hW]; exact (Below.refl _ _).alloc (Nat.le_refl _) _
          have hhb : W.heap[w2.heap.size]? = some (.cells #[.int .i64 (op.pos : Int), .slice Ao op.old.length co, .slice An op.new.length cn] 24 (0, 0)) := by rw [hW]; exact heap_alloc_new _ _
          rw [← hW]
          have hstW := HST2.out.below hsz2 hBW
          have hRoW := Kd.R_below HRO.out hBW
          have hRnW := Kd.R_below HRN.out hBW
          generalize hhbe : w2.heap.size = hb at *
          have hgh : g ≠ hb := by omega
          have hbs : w.heap.size ≤ hb := by omega
          clear hW hBW hhbe HST2 HRO HRN
          have HSTW := Lib.hid hstW
          have HHB := Lib.hid hhb
          have HROW := Lib.hid hRoW
          have HRNW := Lib.hid hRnW
          clear hstW hhb hRoW hRnW
          have dk2 : ¬ nb ≤ k := by omega
          have dk3 : ¬ (k : Int) ≥ (nb : Int) := by omega
          have hgo : goesB a b i k = false := goes_a (by rw [HNA.out]; exact HINA.out) (by rw [HNB.out]; exact hkn)
          go_wp2_with fail
          go_quiet (fail)
          have HSTW2 := Lib.hid (HSTW.out.below HSTW.out.bel.size (below_drewN0 W nq))
          have HHB2 := Lib.hid (show (W.drewN nq).heap[hb]? = some (.cells #[.int .i64 (op.pos : Int), .slice Ao op.old.length co, .slice An op.new.length cn] 24 (0, 0)) from HHB.out)
          have HR2 := Lib.hid (Kd.R_drewN HRNW.out nq)
          generalize W.drewN nq = W2 at *
          clear HSTW HHB HROW HRNW
          obtain ⟨h2, hat5⟩ := at_ins HAT.out (by rw [HNA.out]; exact hi) (by rw [HNB.out]; exact hk) (by rw [HNA.out, HNB.out]; exact HOR.out) hkeep hgo
          rw [putIn_open, ← HOP.out] at hat5
          have h1n : k < nb := by rw [← HNB.out]; exact h2
          clear hgo hkeep
          try clear x1 x2 y1 y2 l1 l2 lg2 hge hXY2
          try clear ca1 cb1
          obtain ⟨ae, hae, ca6⟩ := Kd.at_string (Kd.C_below HB.out HSTW2.out.bel) (k : Int) (by omega) (by omega)
          rw [rdOf_nat _ _ _ h2, Int.toNat_natCast] at ca6
          subst hae
          obtain ⟨x, hx⟩ : ∃ x, x = b[k] := ⟨_, rfl⟩
          rw [← hx] at ca6 hat5
          have HAT6 := Lib.hid hat5
          clear hx hat5
          obtain ⟨k0, k1, k2⟩ := head_cells HHB2.out
          have kl := blk_lt HHB2.out
          go_upto_region 18 with (fail)
          have hS := And.intro (Below.refl W2.heap.size W2) (And.intro k2 ca6)
          clear k0 k1 k2 ca6
          refine start_ (S := fun w' => Below W2.heap.size W2 w' ∧ w'.cell? ⟨hb, 2, none⟩ = some (.slice An op.new.length cn) ∧ w'.cell? (ae.add k) = some (.string x)) (ds := [7, 8, 9]) (n := 10) #[false, false, false, false, false, false, false, false, false, false] rfl rfl rfl ?hS0 (fun hHeld => ?hrun)
          case hS0 => exact keep2 hS ((Below.refl _ _).drew)
          case hrun =>
            refine pure_ (i := 0) (N := some 122) (v := ?_) (a' := ?_) #[true, false, false, false, false, false, false, false, false, false] rfl rfl (by kernel_rfl) (fun _ _ _ h => h) (Or.inl ⟨by rfl, ?_⟩) ?_ ?_
            rotate_left
            · intro w'
              go_simp
              first | done | with_reducible rfl
            rotate_left
            · simp only [Act.put, List.setIfInBounds_toArray, List.set_cons_zero, List.set_cons_succ, i64_w, i32_w]
              rfl
            refine take_ (i := 1) (N := some 123) (v := ?_) (a' := ?_) #[true, true, false, false, false, false, false, false, false, false] rfl rfl (by kernel_rfl) (fun _ _ _ h => h) (Or.inl ⟨by rfl, ?_⟩) hHeld ?_ ?_
            rotate_left
            · rintro w' ⟨hbe, s0, s1⟩
              go_simp
              first | done | with_reducible rfl
            rotate_left
            · simp only [Act.put, List.setIfInBounds_toArray, List.set_cons_zero, List.set_cons_succ, i64_w, i32_w]
              rfl
            refine pure_ (i := 2) (N := some 124) (v := ?_) (a' := ?_) #[true, true, true, false, false, false, false, false, false, false] rfl rfl (by kernel_rfl) (fun _ _ _ h => h) (Or.inl ⟨by rfl, ?_⟩) ?_ ?_
            rotate_left
            · intro w'
              go_simp
              first | done | with_reducible rfl
            rotate_left
            · simp only [Act.put, List.setIfInBounds_toArray, List.set_cons_zero, List.set_cons_succ, i64_w, i32_w]
              rfl
            refine pure_ (i := 3) (N := some 125) (v := ?_) (a' := ?_) #[true, true, true, true, false, false, false, false, false, false] rfl rfl (by kernel_rfl) (fun _ _ _ h => h) (Or.inl ⟨by rfl, ?_⟩) ?_ ?_
            rotate_left
            · intro w'
              go_simp
              first | done | with_reducible rfl
            rotate_left
            · simp only [Act.put, List.setIfInBounds_toArray, List.set_cons_zero, List.set_cons_succ, i64_w, i32_w]
              rfl
            refine pure_ (i := 4) (N := some 126) (v := ?_) (a' := ?_) #[true, true, true, true, true, false, false, false, false, false] rfl rfl (by kernel_rfl) (fun _ _ _ h => h) (Or.inl ⟨by rfl, ?_⟩) ?_ ?_
            rotate_left
            · intro w'
              go_simp
              first | done | with_reducible rfl
            rotate_left
            · simp only [Act.put, List.setIfInBounds_toArray, List.set_cons_zero, List.set_cons_succ, i64_w, i32_w]
              rfl
            refine take_ (i := 5) (N := some 127) (v := ?_) (a' := ?_) #[true, true, true, true, true, true, false, false, false, false] rfl rfl (by kernel_rfl) (fun _ _ _ h => h) (Or.inl ⟨by rfl, ?_⟩) hHeld ?_ ?_
            rotate_left
            · rintro w' ⟨hbe, s0, s1⟩
              go_simp
              first | done | with_reducible rfl
            rotate_left
            · simp only [Act.put, List.setIfInBounds_toArray, List.set_cons_zero, List.set_cons_succ, i64_w, i32_w]
              rfl
            refine one_ (i := 6) (N := some 128) #[true, true, true, true, true, true, true, false, false, false] rfl rfl (by kernel_rfl) (by decide) (fun K hK => ?_)
            refine value_ (by rfl) rfl (by go_simp; first | rfl | exact ⟨rfl, rfl⟩) ?_
            refine hK.out _ _ (keep2 hHeld (below_alloc (Below.refl _ _) _)) (fun hHeld1 => ?_)
            clear hK K
            refine norm_ (a' := ?_) ?_ ?_
            rotate_left
            · show Act.put _ (some 128) _ = _
              simp only [Act.put, List.setIfInBounds_toArray, List.set_cons_zero, List.set_cons_succ, i64_w, i32_w]
              rfl
            refine tail_list 7 (t := [7, 8, 9]) (fuel := 0) rfl rfl rfl (by kernel_rfl) (by decide) ?_
            clear hS hHeld hHeld1
            obtain ⟨W0, hW0⟩ : ∃ W0, W0 = W2.drew := ⟨_, rfl⟩
            have hW1 : (W2.alloc (.cells #[.string x] 9)).drew = W0.alloc (.cells #[.string x] 9) := by rw [hW0]; rfl
            rw [hW1]
            have HSZ0 := Lib.hid (show W0.heap.size = W2.heap.size by rw [hW0]; rfl)
            have HST7 := Lib.hid (show RSt w W0 w.heap.size kg kc na nb a b blk done (some op) (.slice (some ⟨g, 0, none⟩) (done.length + 1) cap) vo1 vn1 by rw [hW0]; exact HSTW2.out.below HSTW2.out.bel.size (Below.refl _ _).drew)
            have HR7 := Lib.hid (show Kd.string.R 9 W0 w.heap.size (fun _ => True) (vn1 done.length) op.new by rw [hW0]; exact Kd.R_drew HR2.out)
            have HC7 := Lib.hid (show W0.heap[hb]? = some (.cells #[.int .i64 (op.pos : Int), .slice Ao op.old.length co, .slice An op.new.length cn] 24 (0, 0)) by rw [hW0]; exact HHB2.out)
            clear hW1 hW0 HSTW2 HR2 HHB2 kl
            show wpList _ _ _ (_ :: _) _ _
            refine (Kd.R_append Kd.string (w0 := w) (W := W0) w.heap.size rfl _ _ 22 9 (.string ⟨#[]⟩) 16 rfl Try.underlying22 infoS rfl (by decide) (by decide) (vn1 done.length) op.new x [.string x] (fun _ => True) (fun _ => False) (by rw [HVN.out]; rfl) (by rw [HSZ0.out]; rfl) rfl (fun _ h => h.elim) (fun _ _ => trivial) HR7.out HST7.out.bel HST7.out.bel.size (by have := HFO.out; omega) ?_)
            intro v1 w7 hR7 hB7 hg7 hat7
            have hst7 := HST7.out.whole_new HC7.out hgh hbs hR7 hB7 hg7 hat7
            obtain ⟨Av, cv, rfl, _, _, _⟩ := R_addr hR7
            have el : (op.new ++ [x]).length = op.new.length + 1 := by simp
            rw [el] at hst7 hR7 ⊢
            rw [HVO.out] at hst7
            clear el
            have hc7 : w7.heap[hb]? = some (.cells #[.int .i64 (op.pos : Int), .slice Ao op.old.length co, .slice An op.new.length cn] 24 (0, 0)) := (hg7.block hb (blk_lt HC7.out) (Kd.R_ne HR7.out HC7.out (by decide))).trans HC7.out
            have hrw := HST7.out.hks.rows
            rw [show (done ++ (some op).toList).length = done.length + 1 by simp] at hrw
            obtain ⟨g1, c1, he1, hcp1, _, _, cells6, hcells6⟩ := own_form hrw (by omega)
            have hgg : g1 = g := by injection he1 with he1; injection he1 with he1; injection he1 with he1; exact he1.symm
            subst hgg
            have hcells7 : w7.heap[g1]? = some (.cells cells6 24 (0, 0)) := (hg7.block g1 (blk_lt hcells6) (Kd.R_ne HR7.out hcells6 (by decide))).trans hcells6
            obtain ⟨q0, q1, q2⟩ := HST7.out.hks.get g1 cap (by simp) (i := done.length) (by simp)
            rw [blk_cell hcells6, ← blk_cell hcells7] at q0 q1 q2
            have p0 := blk_frozen hcells7 (done.length * 3)
            have p1 := blk_frozen hcells7 (done.length * 3 + 1)
            have p2 := blk_frozen hcells7 (done.length * 3 + 2)
            have lg7 := blk_lt hcells7
            obtain ⟨k0, k1, k2⟩ := head_cells hc7
            have kl := blk_lt hc7
            have kf := blk_frozen hc7 2
            have hgh2 : hb ≠ g1 := fun e => hgh e.symm
            have HST8 := Lib.hid hst7
            clear hst7 hR7 hB7 hg7 hat7 hcells7 hc7 HST7 HR7 HC7 hrw he1 hcells6
            go_wp2_with fail
            exact ⟨⟨i, k + 1, done, some _, _, _, by omega, by omega, by go_num, by go_num, rfl, HST8.out, HAT6.out⟩, by simp [intOf]; omega⟩
end Go.Proofs.Ytjclpepdjnffaaa
