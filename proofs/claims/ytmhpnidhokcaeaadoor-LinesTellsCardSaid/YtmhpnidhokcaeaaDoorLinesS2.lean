/- A line's pieces in a row: the program's Tokens. -/
import Derived.Test.YtmhpnidhokcaeaaDoorLinesS1
import Derived.Test.YtmhpnidhokcaeaaDoorWWords
import Derived.RangeFuncBox
import Derived.Maps.AppendAt
import Derived.OwnWalkIn
set_option linter.unusedVariables false
set_option linter.unusedSimpArgs false
namespace Go.Proofs.YtmhpnidhokcaeaaDoor
open Go Go.RowKit Go.Shelf Go.Proofs.YtmhpnidhokcaeaaDoorW.PrintWords
attribute [local go_sem] Oper.semAt_some

theorem linesPieces_any (s : ByteArray) (w : World) :
    Calls Tryd.prog 24 #[.string s] w fun e w' => e = .returned (.func (.func 35) #[] #[.pointer (some ⟨w.heap.size, 0, none⟩)]) ∧ w' = w.alloc (.cells #[.string s] 9) := by
  go_enter Tryd.func24, Tryd.ntmps24
  go_wp2
  go_ret
  exact ⟨rfl, rfl⟩
theorem infoS : (Tryd.prog.info? 9).map (fun i => (i.zero, i.size, i.bytes)) = some (some (.string ⟨#[]⟩), 1, 16) := by kernel_rfl
/-- What lies while pieces are gathered. -/
structure TkI (w0 w : World) (pre : List (ByteArray × Bool)) : Prop where
  bel : Below w0.heap.size w0 w
  row : ∃ v, Boxed w w0.heap.size 23 v ∧ w.ownsRow (w0.heap.size + 2) 9 1 v pre.length (pre.map fun x => Value.string x.1)
  sz : w0.heap.size + 2 ≤ w.heap.size
theorem TkI.move {w0 w w' : World} {pre : List (ByteArray × Bool)} (h : TkI w0 w pre) {r : Option Nat} (hg : w.grownBy w' r) (hr : ∀ k, r = some k → w0.heap.size + 1 ≤ k ∧ (∀ o, w.heap[k]? = some o → o.isCells = true → k = w0.heap.size + 1)) : TkI w0 w' pre := by
  obtain ⟨hb, ⟨v, h1, h2⟩, hz⟩ := h
  refine ⟨hb.grown hg hb.size (fun k e => by have := (hr k e).1; omega), ⟨v, h1.kept hg (fun e => by have := (hr _ e.symm).1; omega), h2.kept hg ?_⟩, Nat.le_trans hz hg.size⟩
  rcases h2.2 with ⟨rfl, _⟩ | ⟨g, cap, cur, rfl, hbg, hgb, _⟩
  · exact .inl rfl
  · refine .inr fun e => ?_
    have e' : r = some g := by simpa [Value.ownBlock] using e.symm
    have := (hr g e').2 _ hgb rfl
    omega
theorem TkI.alloc {w0 w : World} {pre : List (ByteArray × Bool)} (h : TkI w0 w pre) (o : Obj) : TkI w0 (w.alloc o) pre := h.move (World.grownBy_alloc w o none) (fun k e => by cases e)
theorem TkI.put {w0 w : World} {pre : List (ByteArray × Bool)} (h : TkI w0 w pre) {k : Nat} (o : Obj) {o' : Obj} (hk : w0.heap.size + 2 ≤ k) (hl : w.heap[k]? = some o') (ho : o'.isCells = false) : TkI w0 (w.putObj k o) pre :=
  h.move (grownBy_putObj' w k o) (fun j e => by
    obtain rfl : k = j := by simpa using e
    exact ⟨by omega, fun o2 h2 h3 => by rw [hl] at h2; cases h2; rw [ho] at h3; cases h3⟩)
theorem TkI.turn {w0 w : World} {pre : List (ByteArray × Bool)} (h : TkI w0 w pre) (v : Value) : TkI w0 (w.setCell ⟨w0.heap.size + 1, 0, none⟩ v) pre :=
  h.move (grownBy_setCell' w (w0.heap.size + 1) v) (fun j e => by
    obtain rfl : w0.heap.size + 1 = j := by simpa using e
    exact ⟨by omega, fun _ _ _ => rfl⟩)
/-- One more piece: behind the append and the store. -/
theorem TkI.more {w0 W w1 : World} {pre : List (ByteArray × Bool)} {x : ByteArray × Bool} {v v' : Value} (h : TkI w0 W pre) (hv : Boxed W w0.heap.size 23 v) (hrow : W.ownsRow (w0.heap.size + 2) 9 1 v pre.length (pre.map fun x => Value.string x.1)) {tmp : Obj}
    (hown' : w1.ownsRow (w0.heap.size + 2) 9 1 v' (pre.length + 1) ((pre.map fun x => Value.string x.1) ++ [.string x.1])) (hgrow : (W.alloc tmp).grownBy w1 v.ownBlock) :
    Boxed w1 w0.heap.size 23 v ∧ TkI w0 (w1.setCell ⟨w0.heap.size, 0, none⟩ v') (pre ++ [x]) ∧ KeepsOthers W (w1.setCell ⟨w0.heap.size, 0, none⟩ v') ∧ w1.heap[w0.heap.size + 1]? = W.heap[w0.heap.size + 1]? := by
  have hne : some w0.heap.size ≠ v.ownBlock := fun e => by have := own_base hrow _ e.symm; omega
  have hne' : v'.ownBlock ≠ some w0.heap.size := fun e => by have := own_base hown' _ e; omega
  have hv1 : Boxed w1 w0.heap.size 23 v := (hv.alloc tmp).kept hgrow hne
  have hsz := h.sz
  have hB1 : Below w0.heap.size w0 (W.alloc tmp) := h.bel.alloc h.bel.size tmp
  have hB2 : Below w0.heap.size w0 w1 := hB1.grown hgrow hB1.size (fun k e => by have := own_base hrow _ e; omega)
  refine ⟨hv1, ⟨hB2.setCell (p := ⟨w0.heap.size, 0, none⟩) (Nat.le_refl _) v', ⟨v', hv1.set v', ?_⟩, ?_⟩, ?_, ?_⟩
  · rw [List.length_append, List.map_append]
    exact hown'.kept (grownBy_setCell' w1 w0.heap.size v') (.inr hne')
  · have e1 := hgrow.size
    simp [World.setCell] at e1 ⊢
    omega
  · refine ((KeepsOthers.alloc W tmp).trans (KeepsOthers.of_grownBy hgrow fun j o ej hj => ?_)).trans (KeepsOthers.setCell _ _ _)
    rcases (hrow.alloc tmp).2 with ⟨rfl, _⟩ | ⟨g, cap, cur, rfl, _, hgb, _⟩
    · simp [Value.ownBlock] at ej
    · obtain rfl : g = j := by simpa [Value.ownBlock] using ej
      rw [hgb] at hj; cases hj; rfl
  · rw [hgrow.block _ (by simp; omega) (fun e => by have := own_base hrow _ e.symm; omega)]
    exact heap_alloc_old W tmp _ (by omega)
theorem pieces_len : ∀ l : List UInt8, (pieces l).length ≤ l.length
  | [] => Nat.le_refl _
  | b :: l => by
    have ih := pieces_len l
    unfold pieces
    cases hp : pieces l with
    | nil => simp
    | cons p r =>
      obtain ⟨x, t⟩ := p
      rw [hp] at ih
      simp only [List.length_cons] at ih ⊢
      split <;> simp <;> omega
theorem piecesB_len (s : ByteArray) : (piecesB s).length ≤ s.size := by
  unfold piecesB
  rw [List.length_map]
  exact pieces_len _
theorem load_row (w : World) (g : Nat) (v : Value) (t : TypeId) (hg : w.heap[g]? = some (.cells #[v] t (0, 0))) : w.cell? ⟨g, 0, none⟩ = some v := blk_cell hg 0
set_option maxRecDepth 100000 in
set_option maxHeartbeats 4000000 in
theorem tokens_any (s : ByteArray) (w : World) (hs : s.size ≤ 100000000) :
    Calls Tryd.prog 10 #[.string s] w fun e w' => ∃ v, e = .returned v ∧ Kd.string.R 9 w' w.heap.size (fun _ => True) v ((piecesB s).map Prod.fst) ∧ Below w.heap.size w w' := by
  have HS := Lib.hid hs
  clear hs
  refine (callsIn_wide (n := 6)).1 ?_
  refine callsIn_of_wp_marks Tryd.func10 rfl trivial ?_ rfl
  simp only [Tryd.ntmps10, List.size_toArray, List.length_cons, List.length_nil, Nat.reduceAdd, Nat.reduceSub, Array.replicate_succ, Array.replicate_zero, List.push_toArray, List.append_toArray, List.nil_append, List.cons_append]
  gi_wp2_with fail
  refine ⟨trivial, ?_⟩
  refine (callsIn_wide.2 (linesPieces_any s _)).mono ?_
  rintro e w1 ⟨rfl, rfl⟩
  gi_wp2_with fail
  obtain ⟨W0, hW0⟩ : ∃ W0, W0 = (w.alloc (.cells #[.slice none 0 0] 23)).alloc (.cells #[.string s] 9) := ⟨_, rfl⟩
  rw [← hW0]
  have s1 : (w.alloc (.cells #[.slice none 0 0] 23)).heap.size = w.heap.size + 1 := by simp
  have hz : W0.heap.size = w.heap.size + 2 := by rw [hW0]; simp
  have h0 : W0.heap[w.heap.size]? = some (.cells #[.slice none 0 0] 23 (0, 0)) := by rw [hW0]; exact (heap_alloc_old _ _ _ (by omega)).trans (heap_alloc_new w _)
  have h1 : W0.heap[w.heap.size + 1]? = some (.cells #[.string s] 9 (0, 0)) := by
    have := heap_alloc_new (w.alloc (.cells #[.slice none 0 0] 23)) (.cells #[.string s] 9)
    rw [s1] at this
    rw [hW0]
    exact this
  have hB0 : Below w.heap.size w W0 := by rw [hW0]; exact ((Below.refl _ w).alloc (Nat.le_refl _) _).alloc (by omega) _
  have hst : TkI w W0 [] := ⟨hB0, ⟨_, h0, World.ownsRow_nil _ _ _ _⟩, by omega⟩
  refine range_cell (gf := 35) (lb := #[.pointer (some ⟨w.heap.size + 1, 0, none⟩)]) (K := fun _ => True) (p := ⟨w.heap.size + 1, 0, none⟩) (xs := piecesB s) rfl (enters_of Tryd.func35 (by kernel_rfl) rfl)
    (by show w.heap.size + 1 < _; omega) (pieces_seq 5 (by decide) s (w.heap.size + 1) W0 (by have := HS.out; omega) (blk_cell h1 0) (blk_frozen h1 0)) (fun _ => rfl) (fun pre W => TkI w W pre) (fun pre W => False)
    (fun s A o h => h.alloc o) (fun s A k o o' h hk hl ho => h.put o (by omega) hl ho) (fun s A k o o' h hk hl ho => h) (fun s A v h => h.turn v) (fun s A h => trivial) hst
    (fun x => { tmps := #[.string s, undef, .slice none 0 0, .pointer (some ⟨w.heap.size, 0, none⟩), .string x.1, .string s, .func (.func 35) #[] #[.pointer (some ⟨w.heap.size + 1, 0, none⟩)], .string x.1, .bool x.2, undef, undef, undef, undef, undef], defers := [] }) ?assign ?body ?done ?stop (by decide)
  case assign =>
    intro l x W Ka hKa
    gi_wp2
    exact hKa
  case body =>
    intro l pre x W hpx hI
    obtain ⟨hbel, ⟨v, hv, hrow⟩, hsz⟩ := hI
    have HI := Lib.hid (TkI.mk hbel ⟨v, hv, hrow⟩ hsz)
    have hpl : pre.length + 1 ≤ 100000000 := by
      have h2 := hpx.length_le
      have h3 := piecesB_len s
      have h4 := HS.out
      simp at h2
      omega
    have hc := hv.cell
    have hlt := hv.lt
    have hf := hv.frozen
    clear hst h0 h1 hB0 hW0 hz s1
    obtain ⟨i0, hi, hz0, hz1, hz2⟩ := info_parts infoS
    gi_wp2_with (gi_at_builtin; refine wpListIn_append_own _ rfl _ _ 23 rfl (w.heap.size + 2) 9 i0 (.string ⟨#[]⟩) 1 16 Tryd.underlying23 hi hz0 hz1 hz2 rfl (by decide) _ _ _ rfl (hrow.alloc _) ⟨W.heap.size, 0, none⟩ 1 1 [.string x.1] rfl rfl (cell_one_new _ _ _) (by simp [Value.oneCell']) (by unfold maxLen; omega) (by omega) (by simp; omega) ?_)
    intro v' w1 hown' hgrow _
    obtain ⟨g', cap', rfl⟩ := ownsRow_succ hown'
    obtain ⟨hv1, hm1, hm2, hm3⟩ := HI.out.more (x := x) hv hrow hown' hgrow
    have hc1 := hv1.cell
    have hf1 := hv1.frozen
    have hlt1 := hv1.lt
    have HM := Lib.hid (And.intro hm1 (And.intro hm2 hm3))
    clear hm1 hm2 hm3 hown' hgrow hrow hv hv1
    gi_wp2_with fail
    exact ⟨⟨HM.out.2.1, HM.out.1⟩, World.cell?_of_block HM.out.2.2, World.frozen?_of_block HM.out.2.2⟩
  case done =>
    intro D W hD hI hK
    obtain ⟨hbel, ⟨v, hv, hrow⟩, hsz⟩ := hI
    have hc := hv.cell
    have hlt := hv.lt
    have hf := hv.frozen
    have HV := Lib.hid (And.intro hrow (And.intro hbel hsz))
    have HK := Lib.hid hK
    have hDz : w.heap.size + 2 ≤ D := by omega
    clear hst h0 h1 hB0 hW0 hz s1 hbel hrow hv hsz hK
    gi_wp2_with fail
    refine ⟨by simp, .inl ⟨_, _, rfl, run_takeDeferred HK.out, ?_⟩⟩
    refine ⟨v, by simp [results, Tryd.f10, Sem.run_pure], v, rfl, ?_, ?_⟩
    · have h1 : (W.putObj D (.deferred none)).ownsRow (w.heap.size + 2) 9 1 v (piecesB s).length ((piecesB s).map fun x => Value.string x.1) := ownsRow_putObj HV.out.1 _ HK.out rfl
      have h2 := own_weaken h1 (show w.heap.size ≤ w.heap.size + 2 by omega)
      refine Kd.R_of_own ?_ (fun _ _ => trivial)
      rw [List.length_map]
      rw [show encs Value.string ((piecesB s).map Prod.fst) = (piecesB s).map fun x => Value.string x.1 from by simp [encs]]
      exact h2
    · exact HV.out.2.1.grown (grownBy_putObj' W D (.deferred none)) HV.out.2.1.size (fun j e => by cases e; omega)
  case stop =>
    intro D pre W hD hpre hX hK
    exact hX.elim
end Go.Proofs.YtmhpnidhokcaeaaDoor
