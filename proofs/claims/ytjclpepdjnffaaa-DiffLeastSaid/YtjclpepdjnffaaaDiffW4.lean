/- The walk of Diff's hunk. -/
import Derived.Test.YtjclpepdjnffaaaDiffW3
set_option linter.unusedVariables false
set_option linter.unusedSimpArgs false
namespace Go.Proofs.Ytjclpepdjnffaaa
open Go.RowKit Go.Proofs.YtjclpepdjnffaaaW.PrintWords Go.Proofs.YtjclpepdjnffaaaW.PrintLast

theorem blk_one {w : World} {g : Nat} {t t' : TypeId} {cs cs' : Array Value} (h : w.heap[g]? = some (.cells cs t (0, 0))) (h' : w.heap[g]? = some (.cells cs' t' (0, 0))) : t = t' := by
  rw [h] at h'
  injection h' with h'
  injection h' with _ h'
theorem PrAt.grownT {w w' : World} {pb base : Nat} {A : Option Addr} {na ca : Nat} {B : Option Addr} {nb cb : Nat} {v : Value} {T : Nat → Nat → Nat} {blk : Nat → Nat} (h : PrAt w pb base A na ca B nb cb v T blk) {g : Nat} {t : TypeId} {cs : Array Value} (hg : w.grownBy w' (some g)) (hb : w.heap[g]? = some (.cells cs t (0, 0)))
    (h1 : t ≠ 46) (h2 : t ≠ 52) (h3 : t ≠ 51) : PrAt w' pb base A na ca B nb cb v T blk :=
  ⟨(hg.block pb (blk_lt h.head) (fun e => by
    have := Option.some.inj e
    subst this
    exact h3 (blk_one hb h.head))).trans h.head, h.tab.grownT hg hb h1 h2⟩
theorem PrAt.grownV {w w' : World} {pb base : Nat} {A : Option Addr} {na ca : Nat} {B : Option Addr} {nb cb : Nat} {v : Value} {T : Nat → Nat → Nat} {blk : Nat → Nat} (h : PrAt w pb base A na ca B nb cb v T blk) {row : Option Nat} (hg : w.grownBy w' row) (hb : ∀ g, row = some g → ∃ cs t, w.heap[g]? = some (.cells cs t (0, 0)) ∧ t ≠ 46 ∧ t ≠ 52 ∧ t ≠ 51) : PrAt w' pb base A na ca B nb cb v T blk := by
  cases row with
  | none => exact h.below (gb_none hg)
  | some g =>
    obtain ⟨cs, t, hc, h1, h2, h3⟩ := hb g rfl
    exact h.grownT hg hc h1 h2 h3
/-- What Diff's variables hold: hunks that are done, and the open one. -/
structure DSt (w0 w : World) (base pb ob xb : Nat) (A : Option Addr) (na ca : Nat) (B : Option Addr) (nb cb : Nat) (vr : Value) (T : Nat → Nat → Nat) (blk : Nat → Nat) (done : List (Hk ByteArray)) (cur : Option (Hk ByteArray)) (v : Value) (vo vn : Nat → Value) : Prop where
  out : w.heap[ob]? = some (.cells #[v] 28 (0, 0))
  opn : w.heap[xb]? = some (.cells #[.bool cur.isSome] 4 (0, 0))
  hks : HkAt 9 24 w base v (done ++ cur.toList) vo vn
  prs : PrAt w pb base A na ca B nb cb vr T blk
  bel : Below base w0 w
  le1 : base ≤ ob
  le2 : base ≤ xb
theorem infoH : (Try.prog.info? 24).map (fun i => (i.zero, i.size, i.bytes)) = some (some (.agg #[.int .i64 0, .slice none 0 0, .slice none 0 0]), 3, 56) := by kernel_rfl
theorem cell1 {w : World} {pb : Nat} {x : Value} {t : TypeId} (h : w.heap[pb]? = some (.cells #[x] t (0, 0))) : w.cell? ⟨pb, 0, none⟩ = some x ∧ w.frozen? ⟨pb, 0, none⟩ = false ∧ pb < w.heap.size := ⟨blk_cell h 0, blk_frozen h 0, blk_lt h⟩
theorem set1 {w : World} {pb : Nat} {x : Value} {t : TypeId} (h : w.heap[pb]? = some (.cells #[x] t (0, 0))) (y : Value) : (w.setCell ⟨pb, 0, none⟩ y).heap[pb]? = some (.cells #[y] t (0, 0)) := by simpa using blk_set h 0 y
section
variable {w0 w : World} {base pb ob xb : Nat} {A : Option Addr} {na ca : Nat} {B : Option Addr} {nb cb : Nat} {vr : Value} {T : Nat → Nat → Nat} {blk : Nat → Nat} {done : List (Hk ByteArray)} {v : Value} {vo vn : Nat → Value}
theorem DSt.below {w' : World} {cur : Option (Hk ByteArray)} (h : DSt w0 w base pb ob xb A na ca B nb cb vr T blk done cur v vo vn) (hB : Below w.heap.size w w') : DSt w0 w' base pb ob xb A na ca B nb cb vr T blk done cur v vo vn :=
  ⟨(hB.block _ (blk_lt h.out)).trans h.out, (hB.block _ (blk_lt h.opn)).trans h.opn, h.hks.below hB, h.prs.below hB, below_then h.bel (by have := blk_lt h.out; have := h.le1; omega) hB, h.le1, h.le2⟩
set_option maxRecDepth 100000 in
set_option maxHeartbeats 4000000 in
theorem hunk_old (x : Hk ByteArray) (k : Nat) (h : DSt w0 w base pb ob xb A na ca B nb cb vr T blk done (some x) v vo vn) (hl : done.length < 100000) :
    Calls Try.prog 22 #[.int .i64 (k : Int), .pointer (some ⟨xb, 0, none⟩), .pointer (some ⟨ob, 0, none⟩)] w fun e w' => ∃ g cap, v = .slice (some ⟨g, 0, none⟩) (done.length + 1) cap ∧ e = .returned (.pointer (some ⟨g, done.length * 3, none⟩)) ∧ w' = w := by
  obtain ⟨c1, f1, l1⟩ := cell1 h.out
  obtain ⟨c2, f2, l2⟩ := cell1 h.opn
  have hr := h.hks.rows
  rw [show (done ++ (some x).toList).length = done.length + 1 by simp] at hr
  obtain ⟨g, cap, rfl, hc, _, _, _⟩ := own_form hr (by omega)
  clear hr h
  have d1 : ((some x).isSome) = true := rfl
  rw [d1] at c2
  clear d1
  have e1 : (((done.length + 1 : Nat) : Int) - 1) = (done.length : Int) := by omega
  have e2 : wrap64 (((done.length + 1 : Nat) : Int) - 1) = (done.length : Int) := by rw [e1]; unfold wrap64; omega
  go_enter Try.func22, Try.ntmps22
  go_wp2_with fail
  go_ret
  exact ⟨g, cap, rfl, rfl, rfl⟩
set_option maxRecDepth 100000 in
set_option maxHeartbeats 4000000 in
theorem hunk_new (k : Nat) (h : DSt w0 w base pb ob xb A na ca B nb cb vr T blk done none v vo vn) (hl : done.length < 100000) :
    Calls Try.prog 22 #[.int .i64 (k : Int), .pointer (some ⟨xb, 0, none⟩), .pointer (some ⟨ob, 0, none⟩)] w fun e w' => ∃ g cap vo' vn', e = .returned (.pointer (some ⟨g, done.length * 3, none⟩)) ∧ DSt w0 w' base pb ob xb A na ca B nb cb vr T blk done (some ⟨k, [], []⟩) (.slice (some ⟨g, 0, none⟩) (done.length + 1) cap) vo' vn' := by
  obtain ⟨ho, hx, hh, hp, hb, le1, le2⟩ := h
  rw [show done ++ (none : Option (Hk ByteArray)).toList = done by simp] at hh
  obtain ⟨c1, f1, l1⟩ := cell1 ho
  obtain ⟨c2, f2, l2⟩ := cell1 hx
  rw [show (none : Option (Hk ByteArray)).isSome = false from rfl] at c2 hx
  have HO := Lib.hid ho
  have HX := Lib.hid hx
  have HH := Lib.hid hh
  have HP := Lib.hid hp
  have HB := Lib.hid hb
  have hbw : base ≤ w.heap.size := Nat.le_of_lt (Nat.lt_of_le_of_lt le1 l1)
  clear ho hx hh hp hb
  have e2 : wrap64 (((done.length + 1 : Nat) : Int) - 1) = (done.length : Int) := by unfold wrap64; omega
  go_enter Try.func22, Try.ntmps22
  go_wp2_with (at_builtin; refine print_append_cells (w0 := w) (W := w) base rfl _ _ 28 24 (.agg #[.int .i64 0, .slice none 0 0, .slice none 0 0]) 3 56 rfl Try.underlying28 infoH rfl (by decide) (by decide) v done.length (hkCells done vo vn) [.int .i64 (k : Int), .slice none 0 0, .slice none 0 0] rfl rfl rfl ?hone ?HO ?HB ?hbase ?hl ?hk)
  case hone =>
    intro u hu
    simp only [List.mem_cons, List.not_mem_nil, or_false] at hu
    rcases hu with rfl | rfl | rfl <;> rfl
  case HO => exact HH.out.rows
  case HB => exact Below.refl _ _
  case hbase => exact hbw
  case hl => omega
  intro v1 w1 hrow hB1 hg hat
  have hh1 := HH.out.snoc k (by decide) hrow hg
  have hrow' : ∀ g, v.ownBlock = some g → ∃ cs, w.heap[g]? = some (.cells cs 24 (0, 0)) := fun g hg => own_typed HH.out.rows g hg
  have hp1 := HP.out.grownV hg (fun g e => by
    obtain ⟨cs, hc⟩ := hrow' g e
    exact ⟨cs, _, hc, by decide, by decide, by decide⟩)
  have ho1 : w1.heap[ob]? = some (.cells #[v] 28 (0, 0)) := (hg.block ob l1 (own_ne HH.out.rows HO.out (by decide))).trans HO.out
  have hx1 : w1.heap[xb]? = some (.cells #[.bool false] 4 (0, 0)) := (hg.block xb l2 (own_ne HH.out.rows HX.out (by decide))).trans HX.out
  obtain ⟨g, cap, rfl, hcap, _, _, _⟩ := own_form hrow (by omega)
  have hoxne : ob ≠ xb := blk_ne HO.out HX.out (by decide)
  obtain ⟨k1, q1, m1⟩ := cell1 ho1
  obtain ⟨k2, q2, m2⟩ := cell1 hx1
  have HO1 := Lib.hid ho1
  have HX1 := Lib.hid hx1
  have HH1 := Lib.hid hh1
  have HP1 := Lib.hid hp1
  have HB1 := Lib.hid (HB.out.trans hB1)
  clear ho1 hx1 hh1 hp1 hB1 hg hat hrow hrow' c1 f1 c2 f2 HO HX HH HP HB
  go_wp2_with fail
  go_ret
  refine ⟨g, cap, fun i => if i = done.length then .slice none 0 0 else vo i, fun i => if i = done.length then .slice none 0 0 else vn i, rfl, ?_⟩
  have g1 : w1.grownBy (w1.setCell ⟨ob, 0, none⟩ (.slice (some ⟨g, 0, none⟩) (done.length + 1) cap)) (some ob) := gb_setCell (gb_refl _ _) (p := ⟨ob, 0, none⟩) (Or.inl rfl) _
  have hx2 : (w1.setCell ⟨ob, 0, none⟩ (.slice (some ⟨g, 0, none⟩) (done.length + 1) cap)).heap[xb]? = some (.cells #[.bool false] 4 (0, 0)) := blk_far HX1.out (p := ⟨ob, 0, none⟩) (fun e => hoxne e.symm) _
  have g2 := gb_setCell (gb_refl (w1.setCell ⟨ob, 0, none⟩ (.slice (some ⟨g, 0, none⟩) (done.length + 1) cap)) (some xb)) (p := ⟨xb, 0, none⟩) (Or.inl rfl) (.bool true)
  refine ⟨blk_far (set1 HO1.out _) (p := ⟨xb, 0, none⟩) hoxne _, set1 hx2 _, ?_, ((HP1.out.grownT g1 HO1.out (by decide) (by decide) (by decide)).grownT g2 hx2 (by decide) (by decide) (by decide)), (HB1.out.setCell (p := ⟨ob, 0, none⟩) le1 _).setCell (p := ⟨xb, 0, none⟩) le2 _, le1, le2⟩
  exact (HH1.out.grownT g1 HO1.out (by decide) (by decide)).grownT g2 hx2 (by decide) (by decide)
end
end Go.Proofs.Ytjclpepdjnffaaa
