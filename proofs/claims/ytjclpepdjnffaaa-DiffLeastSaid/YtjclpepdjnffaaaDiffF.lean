/- The reference's steps, in plain Lean; a hunk stored whole. -/
import Derived.Test.YtjclpepdjnffaaaDiffW6
set_option linter.unusedVariables false
set_option linter.unusedSimpArgs false
namespace Go.Proofs.Ytjclpepdjnffaaa
open Go.RowKit Go.Proofs.YtjclpepdjnffaaaW.PrintWords Go.Proofs.YtjclpepdjnffaaaW.PrintLast

theorem keep_LL {a b : List ByteArray} {i k : Nat} (h1 : i < a.length) (h2 : k < b.length) : keepB a b i k = true ↔ a[i] = b[k] ∧ LL a b i k = LL a b (i + 1) (k + 1) + 1 := by
  rw [keep_iff h1 h2]
  unfold LL
  rw [List.drop_eq_getElem_cons h1, List.drop_eq_getElem_cons h2]
theorem keep_out {a b : List ByteArray} {i k : Nat} (h : ¬ (i < a.length ∧ k < b.length)) : keepB a b i k = false := by
  unfold keepB alikeB
  rw [decide_eq_false (fun e => h ⟨e.1, e.2.1⟩)]
  rfl
theorem goes_in {a b : List ByteArray} {i k : Nat} (h1 : i < a.length) (h2 : k < b.length) : goesB a b i k = decide (LL a b i (k + 1) ≤ LL a b (i + 1) k) := by
  unfold goesB prc
  rw [if_neg (by omega), if_neg (by omega), ole_some]
  unfold DD LL
  have x0 := apartBy_eq (a.drop (i + 1)) (b.drop k)
  have x1 := apartBy_eq (a.drop i) (b.drop (k + 1))
  simp only [List.length_drop] at x0 x1
  rw [decide_eq_decide]
  omega
theorem goes_b {a b : List ByteArray} {i k : Nat} (h1 : i < a.length) (h2 : k = b.length) : goesB a b i k = true := by
  unfold goesB prc
  rw [if_neg (by omega), if_pos (by omega)]
  rfl
theorem goes_a {a b : List ByteArray} {i k : Nat} (h1 : i = a.length) (h2 : k < b.length) : goesB a b i k = false := by
  unfold goesB prc
  rw [if_pos (by omega), if_neg (by omega)]
  rfl
theorem setCell_self {w : World} {g j : Nat} {u : Value} {cs : Array Value} {t : TypeId} (h : w.heap[g]? = some (.cells cs t (0, 0))) (hu : cs[j]? = some u) : w.setCell ⟨g, j, none⟩ u = w := by
  have e : (w.setCell ⟨g, j, none⟩ u).heap = w.heap := by
    apply Array.ext_getElem?
    intro i
    by_cases hi : g = i
    · subst hi
      rw [blk_set h j u, h]
      congr 2
      apply Array.ext_getElem?
      intro k
      rw [Array.getElem?_setIfInBounds]
      by_cases hk : j = k
      · subst hk
        obtain ⟨hlt, _⟩ := Array.getElem?_eq_some_iff.1 hu
        rw [if_pos rfl, if_pos hlt, hu]
      · rw [if_neg hk]
    · exact Below.heap_setCell w ⟨g, j, none⟩ u i (fun e => hi e.symm)
  unfold World.setCell at e ⊢
  cases w
  simp only at e
  simp only [e]
/-- The open hunk stored whole, behind an append to its Old. -/
theorem HkAt.whole_old {ts th : TypeId} {w w1 : World} {base : Nat} {vo vn : Nat → Value} {g cap : Nat} {done : List (Hk ByteArray)} {x : Hk ByteArray} {u : Value} {o' : List ByteArray} (h : HkAt ts th w base (.slice (some ⟨g, 0, none⟩) (done.length + 1) cap) (done ++ [x]) vo vn) (hne : ts ≠ th)
    (hR : Kd.string.R ts w1 base (fun _ => True) u o') (hg : w.grownBy w1 (vo done.length).ownBlock) (hat : u.ownBlock = (vo done.length).ownBlock ∨ ∃ b, u.ownBlock = some b ∧ w.heap.size ≤ b) :
    HkAt ts th (((w1.setCell ⟨g, done.length * 3, none⟩ (.int .i64 (x.pos : Int))).setCell ⟨g, done.length * 3 + 1, none⟩ u).setCell ⟨g, done.length * 3 + 2, none⟩ (vn done.length)) base (.slice (some ⟨g, 0, none⟩) (done.length + 1) cap) (done ++ [{ x with old := o' }]) (fun i => if i = done.length then u else vo i) vn := by
  have hold := h.old done.length (by simp)
  have hrow := h.rows
  rw [show (done ++ [x]).length = done.length + 1 by simp] at hrow
  obtain ⟨g1, c1, he1, hcp, _, _, cells, hcells⟩ := own_form hrow (by omega)
  have hgg : g1 = g := by injection he1 with he1; injection he1 with he1; injection he1 with he1; exact he1.symm
  subst hgg
  have hc1 : w1.heap[g1]? = some (.cells cells th (0, 0)) := (hg.block g1 (blk_lt hcells) (Kd.R_ne hold hcells hne)).trans hcells
  obtain ⟨q0, q1, q2⟩ := h.get g1 cap (by simp) (i := done.length) (by simp)
  rw [getD_last, if_pos rfl, blk_cell hcells] at q0
  rw [blk_cell hcells] at q1 q2
  rw [setCell_self hc1 q0]
  have hput := h.put_old hne hR hg hat
  have hc2 := blk_set hc1 (done.length * 3 + 1) u
  rw [setCell_self hc2 (by rw [Array.getElem?_setIfInBounds, if_neg (by omega)]; exact q2)]
  exact hput
theorem HkAt.whole_new {ts th : TypeId} {w w1 : World} {base : Nat} {vo vn : Nat → Value} {g cap : Nat} {done : List (Hk ByteArray)} {x : Hk ByteArray} {u : Value} {o' : List ByteArray} (h : HkAt ts th w base (.slice (some ⟨g, 0, none⟩) (done.length + 1) cap) (done ++ [x]) vo vn) (hne : ts ≠ th)
    (hR : Kd.string.R ts w1 base (fun _ => True) u o') (hg : w.grownBy w1 (vn done.length).ownBlock) (hat : u.ownBlock = (vn done.length).ownBlock ∨ ∃ b, u.ownBlock = some b ∧ w.heap.size ≤ b) :
    HkAt ts th (((w1.setCell ⟨g, done.length * 3, none⟩ (.int .i64 (x.pos : Int))).setCell ⟨g, done.length * 3 + 1, none⟩ (vo done.length)).setCell ⟨g, done.length * 3 + 2, none⟩ u) base (.slice (some ⟨g, 0, none⟩) (done.length + 1) cap) (done ++ [{ x with new := o' }]) vo (fun i => if i = done.length then u else vn i) := by
  have hold := h.new done.length (by simp)
  have hrow := h.rows
  rw [show (done ++ [x]).length = done.length + 1 by simp] at hrow
  obtain ⟨g1, c1, he1, hcp, _, _, cells, hcells⟩ := own_form hrow (by omega)
  have hgg : g1 = g := by injection he1 with he1; injection he1 with he1; injection he1 with he1; exact he1.symm
  subst hgg
  have hc1 : w1.heap[g1]? = some (.cells cells th (0, 0)) := (hg.block g1 (blk_lt hcells) (Kd.R_ne hold hcells hne)).trans hcells
  obtain ⟨q0, q1, q2⟩ := h.get g1 cap (by simp) (i := done.length) (by simp)
  rw [getD_last, if_pos rfl, blk_cell hcells] at q0
  rw [blk_cell hcells] at q1 q2
  rw [setCell_self hc1 q0, setCell_self hc1 q1]
  exact h.put_new hne hR hg hat
end Go.Proofs.Ytjclpepdjnffaaa
