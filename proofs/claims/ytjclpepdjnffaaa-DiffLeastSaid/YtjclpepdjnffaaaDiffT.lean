/- Tables (rows of rows of numbers) and rows of hunks in memory. -/
import Derived.Test.YtjclpepdjnffaaaDiffA
import Derived.Test.YtjclpepdjnffaaaFrame
import Derived.Test.YtjclpepdjnffaaaWApart
import Derived.Laws.MakeOwn
import Derived.Laws.OwnMore
set_option linter.unusedVariables false
set_option linter.unusedSimpArgs false
namespace Go.Proofs.Ytjclpepdjnffaaa
open Go.RowKit Go.Proofs.YtjclpepdjnffaaaW.PrintWords Go.Proofs.YtjclpepdjnffaaaW.PrintLast

theorem addr_add (b i j : Nat) : (⟨b, i, none⟩ : Addr).add j = ⟨b, i + j, none⟩ := by
  unfold Addr.add
  split <;> simp_all
theorem gb_own {w w' : World} {row : Option Nat} {base size n : Nat} {e : TypeId} {v : Value} {xs : List Value} (h : w.ownsRow base e size v n xs) (hg : w.grownBy w' row) (hne : ∀ b, v.ownBlock = some b → some b ≠ row) : w'.ownsRow base e size v n xs :=
  own_move h (fun k hk => hg.block k (own_lt h k hk) (hne k hk))
/-- One cell of a row of one's own. -/
theorem own_cell {w : World} {base size n g cap : Nat} {e : TypeId} {xs : List Value} (h : w.ownsRow base e size (.slice (some ⟨g, 0, none⟩) n cap) n xs) (j : Nat) (hj : j < n * size) {u : Value} (hu : xs[j]? = some u) :
    w.cell? ⟨g, j, none⟩ = some u ∧ w.frozen? ⟨g, j, none⟩ = false := by
  rcases h.2 with ⟨h1, _⟩ | ⟨g', cap', cur, he, hb, hh, hn, hm, hs, rfl⟩
  · injection h1 with h1 _ _; cases h1
  · injection he with he hn' hc
    injection he with he
    injection he with he _ _
    subst he
    refine ⟨?_, blk_frozen hh j⟩
    rw [blk_cell hh j, ← hu, List.getElem?_take_of_lt hj]
    simp
theorem own_put {w : World} {base size n g cap : Nat} {e : TypeId} {xs : List Value} (h : w.ownsRow base e size (.slice (some ⟨g, 0, none⟩) n cap) n xs) (j : Nat) (u : Value) :
    (w.setCell ⟨g, j, none⟩ u).ownsRow base e size (.slice (some ⟨g, 0, none⟩) n cap) n (xs.set j u) := by
  refine ⟨by rw [List.length_set]; exact h.1, ?_⟩
  rcases h.2 with ⟨h1, _⟩ | ⟨g', cap', cur, he, hb, hh, hn, hm, hs, rfl⟩
  · injection h1 with h1 _ _; cases h1
  · injection he with he hn' hc
    injection he with he
    injection he with he _ _
    subst he
    subst hc
    exact Or.inr ⟨g, cap, cur.setIfInBounds j u, rfl, hb, blk_set hh j u, hn, hm, by simpa using hs, by simp [List.take_set]⟩
theorem own_form {w : World} {base size n : Nat} {e : TypeId} {v : Value} {xs : List Value} (h : w.ownsRow base e size v n xs) (hn : 0 < n) :
    ∃ g cap, v = .slice (some ⟨g, 0, none⟩) n cap ∧ n ≤ cap ∧ base ≤ g ∧ g < w.heap.size ∧ ∃ cells, w.heap[g]? = some (.cells cells e (0, 0)) := by
  rcases h.2 with ⟨_, h1⟩ | ⟨g', cap', cur, he, hb, hh, hn, hm, hs, _⟩
  · omega
  · exact ⟨g', cap', he, hn, hb, blk_lt hh, cur, hh⟩

/-! ## tables -/
/-- n rows of m numbers, each in a block of its own. -/
structure TabAt (enc : Nat → Value) (te tr : TypeId) (w : World) (base : Nat) (v : Value) (n m : Nat) (T : Nat → Nat → Nat) (blk : Nat → Nat) : Prop where
  rows : w.ownsRow base tr 1 v n ((List.range n).map fun i => .slice (some ⟨blk i, 0, none⟩) m m)
  row : ∀ i, i < n → base ≤ blk i ∧ w.heap[blk i]? = some (.cells ((List.range m).map fun k => enc (T i k)).toArray te (0, 0))
  apart : ∀ i j, i < n → j < n → blk i = blk j → i = j
section
variable {enc : Nat → Value} {te tr : TypeId} {w w' : World} {base n m : Nat} {v : Value} {T : Nat → Nat → Nat} {blk : Nat → Nat}
theorem TabAt.below (h : TabAt enc te tr w base v n m T blk) (hB : Below w.heap.size w w') : TabAt enc te tr w' base v n m T blk :=
  ⟨pw_own_below h.rows hB, fun i hi => ⟨(h.row i hi).1, (hB.block _ (blk_lt (h.row i hi).2)).trans (h.row i hi).2⟩, h.apart⟩
theorem TabAt.grown (h : TabAt enc te tr w base v n m T blk) {row : Option Nat} (hg : w.grownBy w' row) (h1 : ∀ b, v.ownBlock = some b → some b ≠ row) (h2 : ∀ i, i < n → some (blk i) ≠ row) : TabAt enc te tr w' base v n m T blk :=
  ⟨gb_own h.rows hg h1, fun i hi => ⟨(h.row i hi).1, (hg.block _ (blk_lt (h.row i hi).2) (h2 i hi)).trans (h.row i hi).2⟩, h.apart⟩
/-- Another block, of another type, has been written. -/
theorem TabAt.grownT (h : TabAt enc te tr w base v n m T blk) {g : Nat} {t : TypeId} {cs : Array Value} (hg : w.grownBy w' (some g)) (hb : w.heap[g]? = some (.cells cs t (0, 0))) (ht1 : t ≠ te) (ht2 : t ≠ tr) : TabAt enc te tr w' base v n m T blk := by
  refine h.grown hg (fun b hb' e => ?_) (fun i hi e => ?_)
  · cases e
    exact own_ne h.rows hb (fun x => ht2 x.symm) hb'.symm
  · cases e
    exact absurd rfl (blk_ne (h.row i hi).2 hb (fun x => ht1 x.symm))
theorem TabAt.get (h : TabAt enc te tr w base v n m T blk) (g cap : Nat) (hv : v = .slice (some ⟨g, 0, none⟩) n cap) {i k : Nat} (hi : i < n) (hk : k < m) :
    w.cell? ⟨g, i, none⟩ = some (.slice (some ⟨blk i, 0, none⟩) m m) ∧ w.cell? ⟨blk i, k, none⟩ = some (enc (T i k)) ∧ blk i < w.heap.size ∧ w.frozen? ⟨blk i, k, none⟩ = false := by
  subst hv
  have hr := (h.row i hi).2
  refine ⟨(own_cell h.rows i (by omega) (by simp [List.getElem?_range hi])).1, ?_, blk_lt hr, blk_frozen hr k⟩
  rw [blk_cell hr k]
  simp [List.getElem?_range hk]
theorem TabAt.put (h : TabAt enc te tr w base v n m T blk) (hne : te ≠ tr) {i k : Nat} (hi : i < n) (hk : k < m) (x : Nat) :
    TabAt enc te tr (w.setCell ⟨blk i, k, none⟩ (enc x)) base v n m (fun a b => if a = i ∧ b = k then x else T a b) blk := by
  have hr := (h.row i hi).2
  refine ⟨own_setCell h.rows (own_ne h.rows hr (fun e => hne e.symm)) _, fun a ha => ⟨(h.row a ha).1, ?_⟩, h.apart⟩
  by_cases hai : a = i
  · subst hai
    rw [blk_set hr k]
    congr 2
    apply Array.ext'
    simp only [List.setIfInBounds_toArray]
    apply List.ext_getElem
    · simp
    · intro b h1 h2
      simp only [List.getElem_set, List.getElem_map, List.getElem_range]
      by_cases e : k = b
      · subst e; simp
      · rw [if_neg e, if_neg (fun hh => e hh.2.symm)]
  · have hbb : blk a ≠ blk i := fun e => hai (h.apart a i ha hi e)
    rw [blk_far (h.row a ha).2 (p := ⟨blk i, k, none⟩) hbb]
    congr 3
    apply List.map_congr_left
    intro b _
    rw [if_neg (fun hh => hai hh.1)]
theorem TabAt.nil (enc : Nat → Value) (te tr : TypeId) (w : World) (base m : Nat) (T : Nat → Nat → Nat) (blk : Nat → Nat) : TabAt enc te tr w base (.slice none 0 0) 0 m T blk :=
  ⟨own_nil _ _ _ _, fun i hi => by omega, fun i j hi => by omega⟩
/-- A row more. -/
theorem TabAt.snoc {w1 : World} {v1 : Value} {b : Nat} (h : TabAt enc te tr w base v n m T blk) (hrow : w1.ownsRow base tr 1 v1 (n + 1) (((List.range n).map fun i => .slice (some ⟨blk i, 0, none⟩) m m) ++ [.slice (some ⟨b, 0, none⟩) m m]))
    (hg : w.grownBy w1 v.ownBlock) (hne : te ≠ tr) (hT : ∀ k, T n k = 0) (hb : base ≤ b) (hbb : w.heap[b]? = some (.cells (List.replicate m (enc 0)).toArray te (0, 0))) (hn : ∀ i, i < n → blk i ≠ b) :
    TabAt enc te tr w1 base v1 (n + 1) m T (fun i => if i = n then b else blk i) := by
  have hkeep : ∀ (k : Nat) (cs : Array Value), w.heap[k]? = some (Obj.cells cs te (0, 0)) → w1.heap[k]? = some (Obj.cells cs te (0, 0)) := by
    intro k cs hk
    exact (hg.block k (blk_lt hk) (own_ne h.rows hk (fun e => hne e.symm))).trans hk
  refine ⟨?_, fun i hi => ?_, fun i j hi hj e => ?_⟩
  · have e : (List.range (n + 1)).map (fun i => Value.slice (some ⟨if i = n then b else blk i, 0, none⟩) m m) = ((List.range n).map fun i => .slice (some ⟨blk i, 0, none⟩) m m) ++ [.slice (some ⟨b, 0, none⟩) m m] := by
      rw [List.range_succ, List.map_append]
      congr 1
      · apply List.map_congr_left
        intro i hi
        have := List.mem_range.1 hi
        rw [if_neg (by omega)]
      · simp
    rw [e]
    exact hrow
  · by_cases hin : i = n
    · subst hin
      rw [if_pos rfl]
      refine ⟨hb, ?_⟩
      have e : ((List.range m).map fun k => enc (T i k)) = List.replicate m (enc 0) := by
        apply List.ext_getElem
        · simp
        · intro k h1 h2
          simp [hT]
      rw [e]
      exact hkeep _ _ hbb
    · rw [if_neg hin]
      have := h.row i (by omega)
      exact ⟨this.1, hkeep _ _ this.2⟩
  · by_cases hin : i = n
    · by_cases hjn : j = n
      · omega
      · rw [if_pos hin, if_neg hjn] at e
        exact absurd e.symm (hn j (by omega))
    · by_cases hjn : j = n
      · rw [if_neg hin, if_pos hjn] at e
        exact absurd e (hn i (by omega))
      · rw [if_neg hin, if_neg hjn] at e
        exact h.apart i j (by omega) (by omega) e
theorem TabAt.congr {T' : Nat → Nat → Nat} (h : TabAt enc te tr w base v n m T blk) (hT : ∀ i k, i < n → k < m → T i k = T' i k) : TabAt enc te tr w base v n m T' blk :=
  ⟨h.rows, fun i hi => ⟨(h.row i hi).1, by
    rw [(h.row i hi).2]
    congr 3
    apply List.map_congr_left
    intro k hk
    rw [hT i k hi (List.mem_range.1 hk)]⟩, h.apart⟩
theorem TabAt.lower (h : TabAt enc te tr w base v n m T blk) {base' : Nat} (hb : base' ≤ base) : TabAt enc te tr w base' v n m T blk :=
  ⟨own_weaken h.rows hb, fun i hi => ⟨Nat.le_trans hb (h.row i hi).1, (h.row i hi).2⟩, h.apart⟩
end

/-! ## hunks -/
def hk0 : Hk ByteArray := ⟨0, [], []⟩
def hkCell (hs : List (Hk ByteArray)) (vo vn : Nat → Value) (j : Nat) : Value :=
  if j % 3 = 0 then .int .i64 ((hs.getD (j / 3) hk0).pos : Int) else if j % 3 = 1 then vo (j / 3) else vn (j / 3)
def hkCells (hs : List (Hk ByteArray)) (vo vn : Nat → Value) : List Value := (List.range (hs.length * 3)).map (hkCell hs vo vn)
/-- Hunks in a row of the call's own, their lines in rows of the call's own that lie apart. -/
structure HkAt (ts th : TypeId) (w : World) (base : Nat) (v : Value) (hs : List (Hk ByteArray)) (vo vn : Nat → Value) : Prop where
  rows : w.ownsRow base th 3 v hs.length (hkCells hs vo vn)
  old : ∀ i, i < hs.length → Kd.string.R ts w base (fun _ => True) (vo i) (hs.getD i hk0).old
  new : ∀ i, i < hs.length → Kd.string.R ts w base (fun _ => True) (vn i) (hs.getD i hk0).new
  apo : ∀ i j b, i < hs.length → j < hs.length → (vo i).ownBlock = some b → (vo j).ownBlock = some b → i = j
  apn : ∀ i j b, i < hs.length → j < hs.length → (vn i).ownBlock = some b → (vn j).ownBlock = some b → i = j
  apx : ∀ i j b, i < hs.length → j < hs.length → (vo i).ownBlock = some b → (vn j).ownBlock = some b → False
theorem string_E : Kd.string.E = [] := rfl
theorem strR_grown {ts base : Nat} {w w' : World} {v : Value} {xs : List ByteArray} {row : Option Nat} (h : Kd.string.R ts w base (fun _ => True) v xs) (hg : w.grownBy w' row) (hne : ∀ b, v.ownBlock = some b → some b ≠ row) : Kd.string.R ts w' base (fun _ => True) v xs :=
  Kd.R_mono (Kd.R_grown (Kd.R_tight string_E h) hg (fun k hk => hne k hk.symm)) (fun _ _ => trivial)
section
variable {ts th : TypeId} {w w' : World} {base : Nat} {v : Value} {hs : List (Hk ByteArray)} {vo vn : Nat → Value}
theorem HkAt.below (h : HkAt ts th w base v hs vo vn) (hB : Below w.heap.size w w') : HkAt ts th w' base v hs vo vn :=
  ⟨pw_own_below h.rows hB, fun i hi => Kd.R_below (h.old i hi) hB, fun i hi => Kd.R_below (h.new i hi) hB, h.apo, h.apn, h.apx⟩
/-- Another block, of another type, has been written. -/
theorem HkAt.grownT (h : HkAt ts th w base v hs vo vn) {g : Nat} {t : TypeId} {cs : Array Value} (hg : w.grownBy w' (some g)) (hb : w.heap[g]? = some (.cells cs t (0, 0))) (ht1 : t ≠ ts) (ht2 : t ≠ th) : HkAt ts th w' base v hs vo vn := by
  refine ⟨gb_own h.rows hg (fun b hb' e => ?_), fun i hi => strR_grown (h.old i hi) hg (fun b hb' e => ?_), fun i hi => strR_grown (h.new i hi) hg (fun b hb' e => ?_), h.apo, h.apn, h.apx⟩
  · cases e; exact own_ne h.rows hb (fun x => ht2 x.symm) hb'.symm
  · cases e; exact Kd.R_ne (h.old i hi) hb (fun x => ht1 x.symm) hb'.symm
  · cases e; exact Kd.R_ne (h.new i hi) hb (fun x => ht1 x.symm) hb'.symm
theorem hkCells_length (hs : List (Hk ByteArray)) (vo vn : Nat → Value) : (hkCells hs vo vn).length = hs.length * 3 := by simp [hkCells]
theorem HkAt.get (h : HkAt ts th w base v hs vo vn) (g cap : Nat) (hv : v = .slice (some ⟨g, 0, none⟩) hs.length cap) {i : Nat} (hi : i < hs.length) :
    w.cell? ⟨g, i * 3, none⟩ = some (.int .i64 ((hs.getD i hk0).pos : Int)) ∧ w.cell? ⟨g, i * 3 + 1, none⟩ = some (vo i) ∧ w.cell? ⟨g, i * 3 + 2, none⟩ = some (vn i) := by
  subst hv
  have key : ∀ j, j < hs.length * 3 → w.cell? ⟨g, j, none⟩ = some (hkCell hs vo vn j) := fun j hj => (own_cell h.rows j hj (by simp [hkCells, List.getElem?_range hj])).1
  refine ⟨(key _ (by omega)).trans ?_, (key _ (by omega)).trans ?_, (key _ (by omega)).trans ?_⟩
  · unfold hkCell
    rw [if_pos (by omega), show i * 3 / 3 = i by omega]
  · unfold hkCell
    rw [if_neg (by omega), if_pos (by omega), show (i * 3 + 1) / 3 = i by omega]
  · unfold hkCell
    rw [if_neg (by omega), if_neg (by omega), show (i * 3 + 2) / 3 = i by omega]
theorem getD_last (done : List (Hk ByteArray)) (x : Hk ByteArray) (i : Nat) : (done ++ [x]).getD i hk0 = if i = done.length then x else done.getD i hk0 := by
  rw [List.getD_eq_getElem?_getD, List.getD_eq_getElem?_getD]
  by_cases h : i = done.length
  · rw [if_pos h, h]; simp
  · rw [if_neg h]
    by_cases h2 : i < done.length
    · rw [List.getElem?_append_left h2]
    · rw [List.getElem?_eq_none (by simp; omega), List.getElem?_eq_none (by omega)]
theorem cells_set_old (done : List (Hk ByteArray)) (h h' : Hk ByteArray) (hp : h.pos = h'.pos) (vo vn : Nat → Value) (u : Value) :
    (hkCells (done ++ [h]) vo vn).set (done.length * 3 + 1) u = hkCells (done ++ [h']) (fun i => if i = done.length then u else vo i) vn := by
  apply List.ext_getElem
  · simp [hkCells]
  · intro j h1 h2
    simp only [List.length_set, hkCells_length, List.length_append, List.length_singleton] at h1
    rw [List.getElem_set]
    simp only [hkCells, List.getElem_map, List.getElem_range]
    by_cases e : done.length * 3 + 1 = j
    · subst e
      rw [if_pos rfl]
      unfold hkCell
      rw [if_neg (by omega), if_pos (by omega), show (done.length * 3 + 1) / 3 = done.length by omega]
      simp
    · rw [if_neg e]
      unfold hkCell
      rw [getD_last, getD_last]
      by_cases e0 : j % 3 = 0
      · rw [if_pos e0, if_pos e0]
        by_cases e2 : j / 3 = done.length
        · rw [if_pos e2, if_pos e2, hp]
        · rw [if_neg e2, if_neg e2]
      · rw [if_neg e0, if_neg e0]
        by_cases e1 : j % 3 = 1
        · rw [if_pos e1, if_pos e1]
          dsimp only
          rw [if_neg (by omega)]
        · rw [if_neg e1, if_neg e1]
theorem cells_set_new (done : List (Hk ByteArray)) (h h' : Hk ByteArray) (hp : h.pos = h'.pos) (vo vn : Nat → Value) (u : Value) :
    (hkCells (done ++ [h]) vo vn).set (done.length * 3 + 2) u = hkCells (done ++ [h']) vo (fun i => if i = done.length then u else vn i) := by
  apply List.ext_getElem
  · simp [hkCells]
  · intro j h1 h2
    simp only [List.length_set, hkCells_length, List.length_append, List.length_singleton] at h1
    rw [List.getElem_set]
    simp only [hkCells, List.getElem_map, List.getElem_range]
    by_cases e : done.length * 3 + 2 = j
    · subst e
      rw [if_pos rfl]
      unfold hkCell
      rw [if_neg (by omega), if_neg (by omega), show (done.length * 3 + 2) / 3 = done.length by omega]
      simp
    · rw [if_neg e]
      unfold hkCell
      rw [getD_last, getD_last]
      by_cases e0 : j % 3 = 0
      · rw [if_pos e0, if_pos e0]
        by_cases e2 : j / 3 = done.length
        · rw [if_pos e2, if_pos e2, hp]
        · rw [if_neg e2, if_neg e2]
      · rw [if_neg e0, if_neg e0]
        by_cases e1 : j % 3 = 1
        · rw [if_pos e1, if_pos e1]
        · rw [if_neg e1, if_neg e1]
          dsimp only
          rw [if_neg (by omega)]
theorem cells_snoc (hs : List (Hk ByteArray)) (h : Hk ByteArray) (vo vn : Nat → Value) (uo un : Value) :
    hkCells (hs ++ [h]) (fun i => if i = hs.length then uo else vo i) (fun i => if i = hs.length then un else vn i) = hkCells hs vo vn ++ [.int .i64 (h.pos : Int), uo, un] := by
  unfold hkCells
  rw [List.length_append, List.length_singleton, show (hs.length + 1) * 3 = hs.length * 3 + 1 + 1 + 1 by omega, List.range_succ, List.range_succ, List.range_succ]
  simp only [List.map_append, List.map_cons, List.map_nil, List.append_assoc, List.cons_append, List.nil_append]
  congr 1
  · apply List.map_congr_left
    intro j hj
    have hj := List.mem_range.1 hj
    unfold hkCell
    have hj3 : j / 3 ≠ hs.length := by omega
    dsimp only
    rw [getD_last, if_neg hj3, if_neg hj3, if_neg hj3]
  · simp only [List.cons.injEq, and_true]
    refine ⟨?_, ?_, ?_⟩
    · unfold hkCell
      rw [getD_last, if_pos (by omega), if_pos (by omega)]
    · unfold hkCell
      rw [if_neg (by omega), if_pos (by omega)]
      dsimp only
      rw [if_pos (by omega)]
    · unfold hkCell
      rw [if_neg (by omega), if_neg (by omega)]
      dsimp only
      rw [if_pos (by omega)]
/-- A hunk more, without lines. -/
theorem HkAt.snoc {w1 : World} {v1 : Value} (h : HkAt ts th w base v hs vo vn) (p : Nat) (hne : ts ≠ th) (hrow : w1.ownsRow base th 3 v1 (hs.length + 1) (hkCells hs vo vn ++ [.int .i64 (p : Int), .slice none 0 0, .slice none 0 0])) (hg : w.grownBy w1 v.ownBlock) :
    HkAt ts th w1 base v1 (hs ++ [⟨p, [], []⟩]) (fun i => if i = hs.length then .slice none 0 0 else vo i) (fun i => if i = hs.length then .slice none 0 0 else vn i) := by
  have hkeep : ∀ u xs, Kd.string.R ts w base (fun _ => True) u xs → Kd.string.R ts w1 base (fun _ => True) u xs := by
    intro u xs hu
    refine strR_grown hu hg (fun b hb e => ?_)
    obtain ⟨cs, hc⟩ := Kd.R_typed hu b hb
    exact own_ne h.rows hc (fun x => hne x.symm) e
  refine ⟨?_, fun i hi => ?_, fun i hi => ?_, fun i j b hi hj => ?_, fun i j b hi hj => ?_, fun i j b hi hj => ?_⟩
  · rw [cells_snoc, List.length_append]
    exact hrow
  · rw [List.length_append, List.length_singleton] at hi
    rw [getD_last]
    by_cases e : i = hs.length
    · simp only [if_pos e]
      exact Kd.R_nil _ _ _ _ _
    · simp only [if_neg e]
      exact hkeep _ _ (h.old i (by omega))
  · rw [List.length_append, List.length_singleton] at hi
    rw [getD_last]
    by_cases e : i = hs.length
    · simp only [if_pos e]
      exact Kd.R_nil _ _ _ _ _
    · simp only [if_neg e]
      exact hkeep _ _ (h.new i (by omega))
  all_goals
    rw [List.length_append, List.length_singleton] at hi hj
    by_cases e : i = hs.length
    · simp only [if_pos e]
      intro h1
      simp [Value.ownBlock] at h1
    · by_cases e2 : j = hs.length
      · simp only [if_pos e2]
        intro _ h1
        simp [Value.ownBlock] at h1
      · simp only [if_neg e, if_neg e2]
        first
          | exact h.apo i j b (by omega) (by omega)
          | exact h.apn i j b (by omega) (by omega)
          | exact h.apx i j b (by omega) (by omega)
/-- A line more among the last one's Old: behind the append, and the store. -/
theorem HkAt.put_old {w1 : World} {g cap : Nat} {done : List (Hk ByteArray)} {x : Hk ByteArray} {u : Value} {o' : List ByteArray} (h : HkAt ts th w base (.slice (some ⟨g, 0, none⟩) (done.length + 1) cap) (done ++ [x]) vo vn) (hne : ts ≠ th)
    (hR : Kd.string.R ts w1 base (fun _ => True) u o') (hg : w.grownBy w1 (vo done.length).ownBlock) (hat : u.ownBlock = (vo done.length).ownBlock ∨ ∃ b, u.ownBlock = some b ∧ w.heap.size ≤ b) :
    HkAt ts th (w1.setCell ⟨g, done.length * 3 + 1, none⟩ u) base (.slice (some ⟨g, 0, none⟩) (done.length + 1) cap) (done ++ [{ x with old := o' }]) (fun i => if i = done.length then u else vo i) vn := by
  have hl : (done ++ [x]).length = done.length + 1 := by simp
  have hl' : (done ++ [{ x with old := o' }]).length = done.length + 1 := by simp
  have hrow0 := h.rows
  have hold := h.old done.length (by omega)
  rw [hl] at hrow0
  have hrow1 : w1.ownsRow base th 3 (.slice (some ⟨g, 0, none⟩) (done.length + 1) cap) (done.length + 1) (hkCells (done ++ [x]) vo vn) := gb_own hrow0 hg (fun b hb e => by
    rw [← e] at hg
    obtain ⟨cs, hc⟩ := Kd.R_typed hold b e.symm
    exact own_ne hrow0 hc (fun z => hne z.symm) hb.symm)
  obtain ⟨g1, c1, he1, _, _, _, cells1, hcells1⟩ := own_form hrow1 (by omega)
  have hgg : g1 = g := by injection he1 with he1; injection he1 with he1; injection he1 with he1; exact he1.symm
  subst hgg
  have hst : ∀ z xs, Kd.string.R ts w1 base (fun _ => True) z xs → Kd.string.R ts (w1.setCell ⟨g1, done.length * 3 + 1, none⟩ u) base (fun _ => True) z xs := fun z xs hz => Kd.R_set hz hcells1 (fun q hq => by
    have : q = ts := by simpa [string_E] using hq
    subst this
    exact hne) _ _
  have hoth : ∀ z xs, Kd.string.R ts w base (fun _ => True) z xs → (∀ b, z.ownBlock = some b → (vo done.length).ownBlock = some b → False) → Kd.string.R ts w1 base (fun _ => True) z xs := fun z xs hz hzz =>
    strR_grown hz hg (fun b hb e => hzz b hb e.symm)
  have hnew : ∀ b, u.ownBlock = some b → (vo done.length).ownBlock = some b ∨ w.heap.size ≤ b := by
    intro b hb
    rcases hat with h1 | ⟨b', h1, h2⟩
    · exact Or.inl (h1 ▸ hb)
    · rw [h1] at hb
      cases hb
      exact Or.inr h2
  have hlt : ∀ z xs b, Kd.string.R ts w base (fun _ => True) z xs → z.ownBlock = some b → b < w.heap.size := fun z xs b hz hb => Kd.R_lt hz b hb
  refine ⟨?_, fun i hi => ?_, fun i hi => ?_, fun i j b hi hj => ?_, fun i j b hi hj => ?_, fun i j b hi hj => ?_⟩
  · rw [hl', ← cells_set_old done x { x with old := o' } rfl]
    exact own_put hrow1 _ _
  · rw [hl'] at hi
    rw [getD_last]
    by_cases e : i = done.length
    · simp only [if_pos e]
      exact hst _ _ hR
    · simp only [if_neg e]
      have := h.old i (by omega)
      rw [getD_last, if_neg e] at this
      exact hst _ _ (hoth _ _ this (fun b h1 h2 => e (h.apo i done.length b (by omega) (by omega) h1 h2)))
  · rw [hl'] at hi
    rw [getD_last]
    have := h.new i (by omega)
    rw [getD_last] at this
    have hh := hst _ _ (hoth _ _ this (fun b h1 h2 => h.apx done.length i b (by omega) (by omega) h2 h1))
    by_cases e : i = done.length
    · simp only [if_pos e] at hh ⊢
      exact hh
    · simp only [if_neg e] at hh ⊢
      exact hh
  · rw [hl'] at hi hj
    by_cases e : i = done.length
    · by_cases e2 : j = done.length
      · intro _ _; omega
      · simp only [if_pos e, if_neg e2]
        intro h1 h2
        rcases hnew b h1 with h3 | h3
        · exact absurd (h.apo done.length j b (by omega) (by omega) h3 h2) (fun z => e2 z.symm)
        · have := hlt _ _ b (h.old j (by omega)) h2
          omega
    · by_cases e2 : j = done.length
      · simp only [if_neg e, if_pos e2]
        intro h1 h2
        rcases hnew b h2 with h3 | h3
        · exact absurd (h.apo i done.length b (by omega) (by omega) h1 h3) e
        · have := hlt _ _ b (h.old i (by omega)) h1
          omega
      · simp only [if_neg e, if_neg e2]
        exact h.apo i j b (by omega) (by omega)
  · rw [hl'] at hi hj
    exact h.apn i j b (by omega) (by omega)
  · rw [hl'] at hi hj
    by_cases e : i = done.length
    · simp only [if_pos e]
      intro h1 h2
      rcases hnew b h1 with h3 | h3
      · exact h.apx done.length j b (by omega) (by omega) h3 h2
      · have := hlt _ _ b (h.new j (by omega)) h2
        omega
    · simp only [if_neg e]
      exact h.apx i j b (by omega) (by omega)
theorem HkAt.put_new {w1 : World} {g cap : Nat} {done : List (Hk ByteArray)} {x : Hk ByteArray} {u : Value} {o' : List ByteArray} (h : HkAt ts th w base (.slice (some ⟨g, 0, none⟩) (done.length + 1) cap) (done ++ [x]) vo vn) (hne : ts ≠ th)
    (hR : Kd.string.R ts w1 base (fun _ => True) u o') (hg : w.grownBy w1 (vn done.length).ownBlock) (hat : u.ownBlock = (vn done.length).ownBlock ∨ ∃ b, u.ownBlock = some b ∧ w.heap.size ≤ b) :
    HkAt ts th (w1.setCell ⟨g, done.length * 3 + 2, none⟩ u) base (.slice (some ⟨g, 0, none⟩) (done.length + 1) cap) (done ++ [{ x with new := o' }]) vo (fun i => if i = done.length then u else vn i) := by
  have hl : (done ++ [x]).length = done.length + 1 := by simp
  have hl' : (done ++ [{ x with new := o' }]).length = done.length + 1 := by simp
  have hrow0 := h.rows
  have hold := h.new done.length (by omega)
  rw [hl] at hrow0
  have hrow1 : w1.ownsRow base th 3 (.slice (some ⟨g, 0, none⟩) (done.length + 1) cap) (done.length + 1) (hkCells (done ++ [x]) vo vn) := gb_own hrow0 hg (fun b hb e => by
    rw [← e] at hg
    obtain ⟨cs, hc⟩ := Kd.R_typed hold b e.symm
    exact own_ne hrow0 hc (fun z => hne z.symm) hb.symm)
  obtain ⟨g1, c1, he1, _, _, _, cells1, hcells1⟩ := own_form hrow1 (by omega)
  have hgg : g1 = g := by injection he1 with he1; injection he1 with he1; injection he1 with he1; exact he1.symm
  subst hgg
  have hst : ∀ z xs, Kd.string.R ts w1 base (fun _ => True) z xs → Kd.string.R ts (w1.setCell ⟨g1, done.length * 3 + 2, none⟩ u) base (fun _ => True) z xs := fun z xs hz => Kd.R_set hz hcells1 (fun q hq => by
    have : q = ts := by simpa [string_E] using hq
    subst this
    exact hne) _ _
  have hoth : ∀ z xs, Kd.string.R ts w base (fun _ => True) z xs → (∀ b, z.ownBlock = some b → (vn done.length).ownBlock = some b → False) → Kd.string.R ts w1 base (fun _ => True) z xs := fun z xs hz hzz =>
    strR_grown hz hg (fun b hb e => hzz b hb e.symm)
  have hnew : ∀ b, u.ownBlock = some b → (vn done.length).ownBlock = some b ∨ w.heap.size ≤ b := by
    intro b hb
    rcases hat with h1 | ⟨b', h1, h2⟩
    · exact Or.inl (h1 ▸ hb)
    · rw [h1] at hb
      cases hb
      exact Or.inr h2
  have hlt : ∀ z xs b, Kd.string.R ts w base (fun _ => True) z xs → z.ownBlock = some b → b < w.heap.size := fun z xs b hz hb => Kd.R_lt hz b hb
  refine ⟨?_, fun i hi => ?_, fun i hi => ?_, fun i j b hi hj => ?_, fun i j b hi hj => ?_, fun i j b hi hj => ?_⟩
  · rw [hl', ← cells_set_new done x { x with new := o' } rfl]
    exact own_put hrow1 _ _
  · rw [hl'] at hi
    rw [getD_last]
    have := h.old i (by omega)
    rw [getD_last] at this
    have hh := hst _ _ (hoth _ _ this (fun b h1 h2 => h.apx i done.length b (by omega) (by omega) h1 h2))
    by_cases e : i = done.length
    · simp only [if_pos e] at hh ⊢
      exact hh
    · simp only [if_neg e] at hh ⊢
      exact hh
  · rw [hl'] at hi
    rw [getD_last]
    by_cases e : i = done.length
    · simp only [if_pos e]
      exact hst _ _ hR
    · simp only [if_neg e]
      have := h.new i (by omega)
      rw [getD_last, if_neg e] at this
      exact hst _ _ (hoth _ _ this (fun b h1 h2 => e (h.apn i done.length b (by omega) (by omega) h1 h2)))
  · rw [hl'] at hi hj
    exact h.apo i j b (by omega) (by omega)
  · rw [hl'] at hi hj
    by_cases e : i = done.length
    · by_cases e2 : j = done.length
      · intro _ _; omega
      · simp only [if_pos e, if_neg e2]
        intro h1 h2
        rcases hnew b h1 with h3 | h3
        · exact absurd (h.apn done.length j b (by omega) (by omega) h3 h2) (fun z => e2 z.symm)
        · have := hlt _ _ b (h.new j (by omega)) h2
          omega
    · by_cases e2 : j = done.length
      · simp only [if_neg e, if_pos e2]
        intro h1 h2
        rcases hnew b h2 with h3 | h3
        · exact absurd (h.apn i done.length b (by omega) (by omega) h1 h3) e
        · have := hlt _ _ b (h.new i (by omega)) h1
          omega
      · simp only [if_neg e, if_neg e2]
        exact h.apn i j b (by omega) (by omega)
  · rw [hl'] at hi hj
    by_cases e : j = done.length
    · simp only [if_pos e]
      intro h1 h2
      rcases hnew b h2 with h3 | h3
      · exact h.apx i done.length b (by omega) (by omega) h1 h3
      · have := hlt _ _ b (h.old i (by omega)) h1
        omega
    · simp only [if_neg e]
      exact h.apx i j b (by omega) (by omega)
end
end Go.Proofs.Ytjclpepdjnffaaa
