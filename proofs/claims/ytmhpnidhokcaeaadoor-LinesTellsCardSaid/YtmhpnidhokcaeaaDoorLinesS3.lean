/- A token of a line becomes another one: the program's Replace. -/
import Derived.Test.YtmhpnidhokcaeaaDoorLinesS2
import Derived.Test.YtmhpnidhokcaeaaDoorBuildA
import Derived.Test.YtmhpnidhokcaeaaDoorShelf
set_option linter.unusedVariables false
set_option linter.unusedSimpArgs false
namespace Go.Proofs.YtmhpnidhokcaeaaDoor
open Go Go.RowKit Go.Shelf Go.Proofs.YtmhpnidhokcaeaaDoorW.PrintWords
attribute [local go_sem] Oper.semAt_some

/-- What is written for a piece. -/
def repl (f t : ByteArray) (x : ByteArray × Bool) : ByteArray := if x.2 = true ∧ x.1 = f then t else x.1
def accB (f t : ByteArray) (pre : List (ByteArray × Bool)) : List UInt8 := (pre.map fun x => (repl f t x).data.toList).flatten
theorem accB_snoc (f t : ByteArray) (pre : List (ByteArray × Bool)) (x : ByteArray × Bool) : Lib.byteCells (accB f t (pre ++ [x])) = Lib.byteCells (accB f t pre) ++ Lib.strCells (repl f t x) := by
  rw [Lib.strCells_eq, ← Lib.byteCells_append]
  simp [accB]
def sizes (pre : List (ByteArray × Bool)) : Nat := (pre.map fun x => x.1.size).sum
theorem accB_len (f t : ByteArray) : ∀ pre : List (ByteArray × Bool), (accB f t pre).length ≤ sizes pre + pre.length * t.size
  | [] => by simp [accB, sizes]
  | x :: pre => by
    have ih := accB_len f t pre
    have e : (accB f t (x :: pre)).length = (repl f t x).size + (accB f t pre).length := by
      show (List.flatten (_ :: _)).length = _
      rw [List.flatten_cons, List.length_append]
      rfl
    have h1 : (repl f t x).size ≤ x.1.size + t.size := by unfold repl; split <;> omega
    have e2 : sizes (x :: pre) = x.1.size + sizes pre := by simp [sizes]
    rw [e, e2, List.length_cons, Nat.succ_mul]
    omega
theorem sizes_all (s : ByteArray) : sizes (piecesB s) = s.size := by
  have h := congrArg List.length (pieces_alt s.data.toList).2
  unfold sizes piecesB
  rw [List.map_map]
  have e : (((fun x : ByteArray × Bool => x.1.size) ∘ fun p : Piece => ((⟨p.1.toArray⟩ : ByteArray), p.2))) = fun p : Piece => p.1.length := rfl
  rw [e]
  unfold flat at h
  rw [List.length_flatten, List.map_map] at h
  exact h
theorem sizes_prefix {a b : List (ByteArray × Bool)} (h : a <+: b) : sizes a ≤ sizes b := by
  obtain ⟨c, rfl⟩ := h
  simp [sizes]
theorem accB_bound (f t s : ByteArray) (pre : List (ByteArray × Bool)) (x : ByteArray × Bool) (h : pre ++ [x] <+: piecesB s) (hs : s.size ≤ 100000000) (ht : t.size ≤ 10000) : (accB f t pre).length + (repl f t x).size ≤ 140737488355328 := by
  have h1 := accB_len f t (pre ++ [x])
  have h2 := sizes_prefix h
  have h3 := h.length_le
  have h4 := piecesB_len s
  rw [sizes_all] at h2
  have e := congrArg List.length (accB_snoc f t pre x)
  rw [List.length_append, Lib.byteCells_length, Lib.byteCells_length, Lib.strCells_length] at e
  have h5 : (pre ++ [x]).length * t.size ≤ 100000000 * 10000 := Nat.mul_le_mul (by omega) ht
  omega
theorem accB_all (s f t : ByteArray) : accB f t (piecesB s) = replaced s.data.toList f.data.toList t.data.toList := by
  unfold accB piecesB replaced flat
  rw [List.map_map, List.map_map]
  congr 1
  apply List.map_congr_left
  rintro ⟨y, k⟩ hp
  show (repl f t (⟨y.toArray⟩, k)).data.toList = (swap f.data.toList t.data.toList (y, k)).1
  have e : ((⟨y.toArray⟩ : ByteArray) = f) ↔ y = f.data.toList := by
    obtain ⟨⟨f⟩⟩ := f
    constructor
    · intro h
      cases h
      rfl
    · intro h
      cases h
      rfl
  unfold repl swap
  by_cases hk : k = true ∧ y = f.data.toList
  · rw [if_pos hk, if_pos ⟨hk.1, e.2 hk.2⟩]
  · rw [if_neg hk, if_neg (fun h => hk ⟨h.1, e.1 h.2⟩)]
/-- What lies while a line is written. -/
structure RpI (f t : ByteArray) (w0 w : World) (pre : List (ByteArray × Bool)) : Prop where
  bel : Below w0.heap.size w0 w
  bf : w.heap[w0.heap.size]? = some (.cells #[.string f] 9 (0, 0))
  bt : w.heap[w0.heap.size + 1]? = some (.cells #[.string t] 9 (0, 0))
  bld : BIs (w0.heap.size + 2) (w0.heap.size + 2) (Lib.byteCells (accB f t pre)) w
  ln : ∃ u, w.heap[w0.heap.size + 3]? = some (.cells #[u] 9 (0, 0))
  sz : w0.heap.size + 4 ≤ w.heap.size
theorem bis_grown {B b : Nat} {bs : List Value} {w w' : World} {r : Option Nat} (h : BIs B b bs w) (hg : w.grownBy w' r) (hb : r ≠ some b) (hr : ∀ k o, r = some k → w.heap[k]? = some o → ∀ c fz, o ≠ .cells c 5 fz) : BIs B b bs w' := by
  have one : ∀ p, BAt B b p bs w → BAt B b p bs w' := by
    rintro p ⟨h1, v, h2, h3, h4⟩
    refine ⟨h1, v, (hg.block b (blk_lt h2) (fun e => hb e.symm)).trans h2, h3.kept hg ?_, h4⟩
    rcases h3.2 with ⟨rfl, _⟩ | ⟨g, cap, cur, fz, rfl, hbg, hgb, _⟩
    · exact .inl rfl
    · refine .inr fun e => ?_
      have e' : r = some g := by simpa [Value.ownBlock] using e.symm
      exact hr g _ e' hgb _ _ rfl
  exact h.imp (one _) (one _)
theorem RpI.move {f t : ByteArray} {w0 w w' : World} {pre : List (ByteArray × Bool)} (h : RpI f t w0 w pre) {r : Option Nat} (hg : w.grownBy w' r) (hr : ∀ k, r = some k → w0.heap.size + 3 ≤ k ∧ ∀ o, w.heap[k]? = some o → ∀ c fz, o ≠ .cells c 5 fz)
    (hl : ∃ u, w'.heap[w0.heap.size + 3]? = some (.cells #[u] 9 (0, 0))) : RpI f t w0 w' pre :=
  ⟨h.bel.grown hg h.bel.size (fun k e => by have := (hr k e).1; omega), (hg.block _ (blk_lt h.bf) (fun e => by have := (hr _ e.symm).1; omega)).trans h.bf,
    (hg.block _ (blk_lt h.bt) (fun e => by have := (hr _ e.symm).1; omega)).trans h.bt, bis_grown h.bld hg (fun e => by have := (hr _ e).1; omega) (fun k o e ho => (hr k e).2 o ho), hl, Nat.le_trans h.sz hg.size⟩
theorem RpI.alloc {f t : ByteArray} {w0 w : World} {pre : List (ByteArray × Bool)} (h : RpI f t w0 w pre) (o : Obj) : RpI f t w0 (w.alloc o) pre :=
  h.move (World.grownBy_alloc w o none) (fun k e => by cases e) (by obtain ⟨u, hu⟩ := h.ln; exact ⟨u, (heap_alloc_old w o _ (blk_lt hu)).trans hu⟩)
theorem RpI.put {f t : ByteArray} {w0 w : World} {pre : List (ByteArray × Bool)} (h : RpI f t w0 w pre) {k : Nat} (o : Obj) {o' : Obj} (hk : w0.heap.size + 4 ≤ k) (hl : w.heap[k]? = some o') (ho : o'.isCells = false) : RpI f t w0 (w.putObj k o) pre :=
  h.move (grownBy_putObj' w k o) (fun j e => by
    obtain rfl : k = j := by simpa using e
    exact ⟨by omega, fun o2 h2 c fz h3 => by rw [hl] at h2; cases h2; rw [h3] at ho; cases ho⟩) (by obtain ⟨u, hu⟩ := h.ln; exact ⟨u, (World.putObj_heap_other (by omega)).trans hu⟩)
theorem RpI.turn {f t : ByteArray} {w0 w : World} {pre : List (ByteArray × Bool)} (h : RpI f t w0 w pre) (v : Value) : RpI f t w0 (w.setCell ⟨w0.heap.size + 3, 0, none⟩ v) pre := by
  obtain ⟨u, hu⟩ := h.ln
  refine h.move (grownBy_setCell' w (w0.heap.size + 3) v) (fun j e => ?_) ⟨v, by rw [blk_set hu 0]; rfl⟩
  obtain rfl : w0.heap.size + 3 = j := by simpa using e
  exact ⟨by omega, fun o h2 c fz h3 => by
    rw [hu] at h2
    cases h2
    cases h3⟩
/-- One more piece: behind WriteString. -/
theorem RpI.more {f t : ByteArray} {w0 W w1 : World} {pre : List (ByteArray × Bool)} {x : ByteArray × Bool} (h : RpI f t w0 W pre)
    (hb : BAt (w0.heap.size + 2) (w0.heap.size + 2) (.pointer (some ⟨w0.heap.size + 2, 0, none⟩)) (Lib.byteCells (accB f t pre) ++ Lib.strCells (repl f t x)) w1) (hB : Below (w0.heap.size + 2) W w1) (hk : BKept (w0.heap.size + 2) W w1) :
    RpI f t w0 w1 (pre ++ [x]) ∧ KeepsOthers W w1 ∧ w1.heap[w0.heap.size + 3]? = W.heap[w0.heap.size + 3]? := by
  obtain ⟨u, hu⟩ := h.ln
  have hu1 : w1.heap[w0.heap.size + 3]? = some (.cells #[u] 9 (0, 0)) := hk _ _ hu (fun e => by simp at e) (fun c fz e => by cases e)
  have hz := hB.size
  have hz2 := h.sz
  refine ⟨⟨h.bel.trans (hB.mono (by omega)), (hB.block _ (by omega)).trans h.bf, (hB.block _ (by omega)).trans h.bt, .inr (by rw [accB_snoc]; exact hb), ⟨u, hu1⟩, by omega⟩, ⟨hz, fun k o ho hc => hk k o ho (fun e => ?_) (fun c fz e => by rw [e] at hc; cases hc)⟩, hu1.trans hu.symm⟩
  obtain rfl : k = w0.heap.size + 2 := by simpa using e
  rcases h.bld with ⟨_, v, h2, _⟩ | ⟨_, v, h2, _⟩ <;> rw [h2] at ho <;> cases ho <;> cases hc
theorem laid4 (w : World) (a b c d : Obj) : ∃ W, W = (((w.alloc a).alloc b).alloc c).alloc d ∧ W.heap.size = w.heap.size + 4 ∧ W.heap[w.heap.size]? = some a ∧ W.heap[w.heap.size + 1]? = some b ∧ W.heap[w.heap.size + 2]? = some c ∧ W.heap[w.heap.size + 3]? = some d ∧ Below w.heap.size w W := by
  have s1 : (w.alloc a).heap.size = w.heap.size + 1 := by simp
  have s2 : ((w.alloc a).alloc b).heap.size = w.heap.size + 2 := by simp
  have s3 : (((w.alloc a).alloc b).alloc c).heap.size = w.heap.size + 3 := by simp
  have n0 := heap_alloc_new w a
  have n1 := heap_alloc_new (w.alloc a) b
  have n2 := heap_alloc_new ((w.alloc a).alloc b) c
  have n3 := heap_alloc_new (((w.alloc a).alloc b).alloc c) d
  rw [s1] at n1
  rw [s2] at n2
  rw [s3] at n3
  have B1 := (Below.refl w.heap.size w).alloc (Nat.le_refl _) a
  have B2 := B1.alloc (by omega) b
  have B3 := B2.alloc (by omega) c
  have B4 := B3.alloc (by omega) d
  have o1 := fun k (h : k < w.heap.size + 1) => heap_alloc_old (w.alloc a) b k (by omega)
  have o2 := fun k (h : k < w.heap.size + 2) => heap_alloc_old ((w.alloc a).alloc b) c k (by omega)
  have o3 := fun k (h : k < w.heap.size + 3) => heap_alloc_old (((w.alloc a).alloc b).alloc c) d k (by omega)
  exact ⟨_, rfl, by simp, (o3 _ (by omega)).trans ((o2 _ (by omega)).trans ((o1 _ (by omega)).trans n0)), (o3 _ (by omega)).trans ((o2 _ (by omega)).trans n1), (o3 _ (by omega)).trans n2, n3, B4⟩
set_option maxRecDepth 100000 in
set_option maxHeartbeats 4000000 in
theorem replace_any (s f t : ByteArray) (w : World) (hs : s.size ≤ 100000000) (ht : t.size ≤ 10000) :
    Calls Tryd.prog 12 #[.string s, .string f, .string t] w fun e w' => e = .returned (.string ⟨(replaced s.data.toList f.data.toList t.data.toList).toArray⟩) ∧ Below w.heap.size w w' := by
  have HS := Lib.hid (And.intro hs ht)
  clear hs ht
  refine (callsIn_wide (n := 6)).1 ?_
  refine callsIn_of_wp_marks Tryd.func12 rfl trivial ?_ rfl
  simp only [Tryd.ntmps12, List.size_toArray, List.length_cons, List.length_nil, Nat.reduceAdd, Nat.reduceSub, Array.replicate_succ, Array.replicate_zero, List.push_toArray, List.append_toArray, List.nil_append, List.cons_append]
  gi_wp2_with fail
  refine ⟨trivial, ?_⟩
  refine (callsIn_wide.2 (linesPieces_any s _)).mono ?_
  rintro e w1 ⟨rfl, rfl⟩
  gi_wp2_with fail
  simp only [Nat.add_assoc, Nat.reduceAdd]
  obtain ⟨W0, hW0, hz, h0, h1, h2, h3, hB0⟩ := laid4 w (.cells #[.string f] 9) (.cells #[.string t] 9) (.cells #[.pointer none, .slice none 0 0] 43) (.cells #[.string s] 9)
  rw [← hW0]
  have hst : RpI f t w W0 [] := ⟨hB0, h0, h1, Lib.IsBuilderF.of (.inl ⟨Nat.le_refl _, _, h2, World.ownsRow_nil _ _ _ _, by simp [Value.ownBlock]⟩), ⟨_, h3⟩, by omega⟩
  refine range_cell (gf := 35) (lb := #[.pointer (some ⟨w.heap.size + 3, 0, none⟩)]) (K := fun _ => True) (p := ⟨w.heap.size + 3, 0, none⟩) (xs := piecesB s) rfl (enters_of Tryd.func35 (by kernel_rfl) rfl)
    (by show w.heap.size + 3 < _; omega) (pieces_seq 5 (by decide) s (w.heap.size + 3) W0 (by have := HS.out.1; omega) (blk_cell h3 0) (blk_frozen h3 0)) (fun _ => rfl) (fun pre W => RpI f t w W pre) (fun pre W => False)
    (fun s A o h => h.alloc o) (fun s A k o o' h hk hl ho => h.put o (by omega) hl ho) (fun s A k o o' h hk hl ho => h) (fun s A v h => h.turn v) (fun s A h => trivial) hst
    (fun x => { tmps := #[.string s, .string f, .string t, undef, .pointer (some ⟨w.heap.size, 0, none⟩), .pointer (some ⟨w.heap.size + 1, 0, none⟩), .string ⟨#[]⟩, .pointer (some ⟨w.heap.size + 2, 0, none⟩), .string x.1, .bool x.2, .string s, .func (.func 35) #[] #[.pointer (some ⟨w.heap.size + 3, 0, none⟩)], .string x.1, .bool x.2, undef, undef, undef, undef, undef, undef, undef, undef, undef, undef], defers := [] }) ?assign ?body ?done ?stop (by decide)
  case assign =>
    intro l x W Ka hKa
    gi_wp2
    exact hKa
  case body =>
    intro l pre x W hpx hI
    have HI := Lib.hid hI
    have HB := Lib.hid (accB_bound f t s pre x hpx HS.out.1 HS.out.2)
    have c0 : W.cell? ⟨w.heap.size, 0, none⟩ = some (.string f) := blk_cell hI.bf 0
    have c1 : W.cell? ⟨w.heap.size + 1, 0, none⟩ = some (.string t) := blk_cell hI.bt 0
    have f0 := blk_frozen hI.bf 0
    have f1 := blk_frozen hI.bt 0
    have l0 := blk_lt hI.bf
    have l1 := blk_lt hI.bt
    have hr0 : (∀ y, y = repl f t x → CallsIn (Fence.wide.inRound l) 3 Tryd.prog 26 #[.pointer (some ⟨w.heap.size + 2, 0, none⟩), .string y] W fun e w1 => (∃ v, e = .returned v) ∧ (RpI f t w w1 (pre ++ [x]) ∧ KeepsOthers W w1 ∧ w1.heap[w.heap.size + 3]? = W.heap[w.heap.size + 3]?)) := by
      rintro y rfl
      refine (CallsIn.inRound l (callsIn_wide.2 (writeString_k (w.heap.size + 2) (w.heap.size + 2) _ (repl f t x) W hI.bld (by rw [Lib.byteCells_length]; exact HB.out) (by have := hI.sz; omega)))).mono ?_
      rintro e w1 ⟨rfl, k1, k2, k3⟩
      exact ⟨⟨_, rfl⟩, hI.more k1 k2 k3⟩
    have HR := Lib.hid hr0
    have fin : ∀ w1, RpI f t w w1 (pre ++ [x]) ∧ KeepsOthers W w1 ∧ w1.heap[w.heap.size + 3]? = W.heap[w.heap.size + 3]? → ∀ a, roundEnds (fun pre W => RpI f t w W pre) (fun pre W => False) (pre ++ [x]) W .normal a w1 ∧ w1.cell? ⟨w.heap.size + 3, 0, none⟩ = W.cell? ⟨w.heap.size + 3, 0, none⟩ ∧ w1.frozen? ⟨w.heap.size + 3, 0, none⟩ = W.frozen? ⟨w.heap.size + 3, 0, none⟩ :=
      fun w1 h a => ⟨⟨h.2.1, h.1⟩, World.cell?_of_block h.2.2, World.frozen?_of_block h.2.2⟩
    have HF := Lib.hid fin
    clear fin hr0 hI hst h0 h1 h2 h3 hB0 hW0 hz
    obtain ⟨y, k⟩ := x
    cases k with
    | false =>
      have HY := Lib.hid (show y = repl f t (y, false) from rfl)
      gi_wp2_with fail
      refine ⟨trivial, ?_⟩
      refine (HR.out _ HY.out).mono ?_
      rintro e w1 ⟨⟨v, rfl⟩, h⟩
      have H := Lib.hid h
      clear h
      gi_wp2_with fail
      exact HF.out _ H.out _
    | true =>
      by_cases hy : y = f
      · subst hy
        have HY := Lib.hid (show t = repl y t (y, true) from by unfold repl; simp)
        gi_wp2_with fail
        refine ⟨trivial, ?_⟩
        refine (HR.out _ HY.out).mono ?_
        rintro e w1 ⟨⟨v, rfl⟩, h⟩
        have H := Lib.hid h
        clear h
        gi_wp2_with fail
        exact HF.out _ H.out _
      · have HY := Lib.hid (show y = repl f t (y, true) from by unfold repl; simp [hy])
        have hy2 : ¬ y.toList = f.toList := by
          intro h
          rw [ByteArray.toList_eq, ByteArray.toList_eq] at h
          exact hy (by obtain ⟨⟨y⟩⟩ := y; obtain ⟨⟨f⟩⟩ := f; simp at h; rw [h])
        have hy3 : (y.toList == f.toList) = false := by simpa using hy2
        clear hy hy2
        gi_wp2_with fail
        refine ⟨trivial, ?_⟩
        refine (HR.out _ HY.out).mono ?_
        rintro e w1 ⟨⟨v, rfl⟩, h⟩
        have H := Lib.hid h
        clear h
        gi_wp2_with fail
        exact HF.out _ H.out _
  case done =>
    intro D W hD hI hK
    have HK := Lib.hid hK
    have HI := Lib.hid hI
    have HZ := Lib.hid (show w.heap.size + 4 ≤ D by omega)
    clear hst h0 h1 h2 h3 hB0 hW0 hz hK hI hD
    gi_wp2_with fail
    refine ⟨trivial, ?_⟩
    refine (callsIn_wide.2 (Tryd.Builder_String_any_k (w.heap.size + 2) (w.heap.size + 2) (accB f t (piecesB s)) W HI.out.bld (by have := HI.out.sz; omega))).mono ?_
    rintro e w1 ⟨rfl, k1, k2, k3⟩
    have K := Lib.hid (And.intro k2 k3)
    clear k1 k2 k3
    gi_wp2_with fail
    have hK1 : w1.heap[D]? = some (.deferred (some [])) := K.out.2 _ _ HK.out (fun e => by have := HZ.out; simp at e; omega) (fun c fz e => by cases e)
    have hB1 : Below w.heap.size w w1 := HI.out.bel.trans (K.out.1.mono (by omega))
    refine ⟨by simp, .inl ⟨_, _, rfl, run_takeDeferred hK1, ?_⟩⟩
    refine ⟨_, results_tmp (t := 6) rfl _ _ _, ?_, hB1.grown (grownBy_putObj' w1 D (.deferred none)) hB1.size (fun j e => by cases e; have := HZ.out; omega)⟩
    rw [accB_all]
    rfl
  case stop =>
    intro D pre W hD hpre hX hK
    exact hX.elim
end Go.Proofs.YtmhpnidhokcaeaaDoor
