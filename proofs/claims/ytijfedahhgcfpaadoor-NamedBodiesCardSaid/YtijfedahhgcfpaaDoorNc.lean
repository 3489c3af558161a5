/- strings.SplitSeq at one byte: the iterator's contract. -/
import Derived.Test.YtijfedahhgcfpaaDoorNa
import Derived.Test.YtijfedahhgcfpaaDoorShelf
import Derived.Test.YtijfedahhgcfpaaDoorProg
import Derived.RangeFuncNested
import Derived.RangeFuncBound
import Derived.RangeFuncCalls
import Derived.RangeFuncLeaves
import Derived.Shelf.Abstract
import Derived.Shelf.RegionOpen
import Derived.WalkKit
import Derived.OwnWalkIn
import Derived.TacticsInMore
import Derived.LoopNIn
import Derived.LoopIn
import Derived.Lib.Hide
import Derived.Test.YtijfedahhgcfpaaDoorNb
import Derived.Test.YtijfedahhgcfpaaDoorWWords
set_option linter.unusedVariables false
set_option linter.unusedSimpArgs false
namespace Go.Proofs.YtijfedahhgcfpaaDoor
open Go Go.RowKit Go.Shelf
attribute [local go_sem] Oper.semAt_some

def splitB (s : ByteArray) : List ByteArray := (splitS (bl s)).map ba
theorem splitB_last (s : ByteArray) (h : Lib.indexByte s.data.toList 47 < 0) : splitB s = [s] := by
  have hx : Lib.indexByte (bl s) 47 < 0 := h
  unfold splitB
  rw [splitS_step, if_pos hx]
  rfl
theorem splitB_more (s : ByteArray) (k : Nat) (h : Lib.indexByte s.data.toList 47 = k) : splitB s = s.extract 0 k :: splitB (s.extract (k + 1) s.size) := by
  have hx : Lib.indexByte (bl s) 47 = (k : Int) := h
  have e1 : ba ((bl s).take k) = s.extract 0 k := by rw [← bl_inj, bl_ba, bl_extract, List.drop_zero]
  have e2 : (bl s).drop (k + 1) = bl (s.extract (k + 1) s.size) := by rw [bl_extract, List.take_of_length_le (by rw [bl_size]; exact Nat.le_refl _)]
  show (splitS (bl s)).map ba = _
  rw [splitS_step, if_neg (by omega), hx, Int.toNat_natCast, List.map_cons, e1, e2]
  rfl
def cellLen (p : Addr) (w : World) : Nat := match w.cell? p with
  | some (.string r) => r.size
  | _ => 0
def SplitK (bsep bsv : Nat) (A : World) : Prop := A.cell? ⟨bsep, 0, none⟩ = some (.string ⟨#[47]⟩) ∧ A.cell? ⟨bsv, 0, none⟩ = some (.int .i64 0)

set_option maxRecDepth 100000 in
set_option maxHeartbeats 4000000 in
theorem split_seq (n : Nat) (hn : 2 ≤ n) (s : ByteArray) (bsep bs bsv : Nat) (h1 : bsep ≠ bs) (h2 : bsv ≠ bs) (W : World) (hs : s.size ≤ 140737488351232) (hc : W.cell? ⟨bs, 0, none⟩ = some (.string s)) (hf : W.frozen? ⟨bs, 0, none⟩ = false) :
    SeqCell n Tryd.prog 68 #[.pointer (some ⟨bsep, 0, none⟩), .pointer (some ⟨bs, 0, none⟩), .pointer (some ⟨bsv, 0, none⟩)] (fun x : ByteArray => #[.string x]) (SplitK bsep bsv) ⟨bs, 0, none⟩ (splitB s) W := by
  intro l J Jx hK hJc hY A hJ0 hAc hAf
  rw [hc] at hAc
  rw [hf] at hAf
  clear hc hf
  refine callsIn_of_wp Tryd.func68 rfl trivial ?_ rfl
  simp only [Tryd.ntmps68, List.size_toArray, List.length_cons, List.length_nil, Nat.reduceAdd, Nat.reduceSub, Array.replicate_succ, Array.replicate_zero, List.push_toArray, List.append_toArray, List.nil_append, List.cons_append]
  obtain ⟨k1, k2⟩ := hK [] A hJ0
  gi_wp2
  gi_loopw [] (fun wr => ∃ (pre : List ByteArray) (rest : ByteArray), splitB s = pre ++ splitB rest ∧ J pre wr ∧ wr.cell? ⟨bs, 0, none⟩ = some (.string rest) ∧ wr.frozen? ⟨bs, 0, none⟩ = false ∧ rest.size ≤ 140737488351232) (fun wr => cellLen ⟨bs, 0, none⟩ wr)
  case atStart => exact ⟨[], s, rfl, hJ0, hAc, hAf, hs⟩
  case round =>
    clear hAc hAf hJ0 hs k1 k2
    obtain ⟨pre, rest, hsp, hJ, hcell, hfr, hsz⟩ := hrel
    obtain ⟨k1, k2⟩ := hK pre wr hJ
    have HSP := Lib.hid hsp
    have HJ := Lib.hid hJ
    have HK := Lib.hid hK
    have HJC := Lib.hid hJc
    clear hsp hK hJc
    by_cases hneg : Lib.indexByte rest.data.toList 47 < 0
    · obtain ⟨fn, tmps, assign, body, hy, hR⟩ := hY pre rest wr hJ
      have HN := Lib.hid (splitB_last rest hneg)
      gi_wp2_with fail
      refine ⟨trivial, fun _ => by omega, ?_⟩
      refine (callsIn_wide.2 (Tryd.strings_Index_one rest 47 _)).mono ?_
      rintro e w' ⟨rfl, rfl⟩
      gi_wp2_with fail
      refine ⟨fun _ => by omega, ?_⟩
      refine hR.mono ?_
      rintro e W3 (⟨rfl, hJ3, hc3, hf3⟩ | ⟨rfl, hJx3⟩)
      · gi_wp2
        go_end0
        refine ⟨⟨_, rfl⟩, .inl ?_⟩
        rw [HSP.out, HN.out]
        exact hJ3
      · gi_wp2
        go_end0
        refine ⟨⟨_, rfl⟩, .inr ⟨_, ?_, hJx3⟩⟩
        rw [HSP.out, HN.out]
        exact List.prefix_refl _
    · obtain ⟨k, hk⟩ : ∃ k : Nat, Lib.indexByte rest.data.toList 47 = k := ⟨(Lib.indexByte rest.data.toList 47).toNat, by omega⟩
      have hlt := indexByte_lt rest.data.toList 47
      have hrl : rest.data.toList.length = rest.size := rfl
      have hk1 : k < rest.size := by omega
      have HM := Lib.hid (splitB_more rest k hk)
      obtain ⟨fn, tmps, assign, body, hy, hR⟩ := hY pre (rest.extract 0 k) wr hJ
      have e1 : ¬ ((k : Int) < 0) := by omega
      have e2 : (k : Int) ≤ (rest.size : Int) := by omega
      have e3 : (k : Int) + 1 ≤ (rest.size : Int) := by omega
      have e4 : (0 : Int) ≤ (k : Int) + 1 := by omega
      have HCL := Lib.hid (show cellLen ⟨bs, 0, none⟩ wr = rest.size by unfold cellLen; rw [hcell])
      clear hneg hlt hrl
      gi_wp2_with fail
      refine ⟨trivial, fun _ => by omega, ?_⟩
      refine (callsIn_wide.2 (Tryd.strings_Index_one rest 47 _)).mono ?_
      rw [hk]
      rintro e w' ⟨rfl, rfl⟩
      gi_wp2_with fail
      refine ⟨fun _ => by omega, ?_⟩
      refine hR.mono ?_
      rintro e W3 (⟨rfl, hJ3, hc3, hf3⟩ | ⟨rfl, hJx3⟩)
      · have hc4 := hc3.trans hcell
        have hf4 := hf3.trans hfr
        obtain ⟨m1, m2⟩ := HK.out _ W3 hJ3
        have HJ3 := Lib.hid hJ3
        clear hc3 hf3 hcell hfr k1 k2 hJ hJ3
        gi_wp2
        go_roundw
        case rel =>
          refine ⟨pre ++ [rest.extract 0 k], rest.extract (k + 1) rest.size, ?_, HJC.out _ _ _ HJ3.out, World.cell?_setCell_same' _ _ _ (by rw [hc4]; rfl), by rw [World.frozen?_setCell]; exact hf4, by rw [ByteArray.size_extract]; omega⟩
          rw [HSP.out, HM.out, List.append_assoc]
          rfl
        case measure =>
          rw [HCL.out]
          unfold cellLen
          rw [World.cell?_setCell_same' _ _ _ (by rw [hc4]; rfl)]
          simp only [ByteArray.size_extract]
          omega
      · gi_wp2
        refine bodyPost_ret (results_none rfl _ _ _) rfl ?_
        refine ⟨⟨_, rfl⟩, .inr ⟨_, ?_, hJx3⟩⟩
        rw [HSP.out, HM.out]
        exact ⟨splitB (rest.extract (k + 1) rest.size), by simp⟩
end Go.Proofs.YtijfedahhgcfpaaDoor
/- Is a text a path: the program's Right. -/
set_option linter.unusedVariables false
set_option linter.unusedSimpArgs false
namespace Go.Proofs.YtijfedahhgcfpaaDoor
open Go Go.RowKit Go.Shelf Go.Proofs.YtijfedahhgcfpaaDoorW.PrintWords
attribute [local go_sem] Oper.semAt_some

theorem splitseq_any (s : ByteArray) (w : World) :
    Calls Tryd.prog 43 #[.string s, .string ⟨#[47]⟩] w fun e w' => e = .returned (.func (.func 68) #[] #[.pointer (some ⟨w.heap.size + 1, 0, none⟩), .pointer (some ⟨w.heap.size, 0, none⟩), .pointer (some ⟨w.heap.size + 2, 0, none⟩)]) ∧ w' = ((w.alloc (.cells #[.string s] 9)).alloc (.cells #[.string ⟨#[47]⟩] 9)).alloc (.cells #[.int .i64 0] 3) := by
  go_enter Tryd.func43, Tryd.ntmps43
  go_wp2
  go_ret
  exact ⟨rfl, rfl⟩
/-- What lies while the loop goes on: no part was wrong; so many have come. -/
structure RtI (w0 w : World) (pre : List ByteArray) : Prop where
  bel : Below w0.heap.size w0 w
  res : w.heap[w0.heap.size]? = some (.cells #[.bool false] 4 (0, 0))
  cnt : w.heap[w0.heap.size + 1]? = some (.cells #[.int .i64 (wrap64 (pre.length : Int))] 3 (0, 0))
  str : w0.heap.size + 2 < w.heap.size
  sep : w.heap[w0.heap.size + 3]? = some (.cells #[.string ⟨#[47]⟩] 9 (0, 0))
  sav : w.heap[w0.heap.size + 4]? = some (.cells #[.int .i64 0] 3 (0, 0))
  ok : ∀ x ∈ pre, partOk 16 (bl x) = true
/-- What lies behind a part that was wrong. -/
structure RtX (w0 w : World) (pre : List ByteArray) : Prop where
  bel : Below w0.heap.size w0 w
  res : w.heap[w0.heap.size]? = some (.cells #[.bool false] 4 (0, 0))
  bad : ∃ x ∈ pre, partOk 16 (bl x) = false
section
variable {w0 w w' : World} {pre : List ByteArray}
theorem RtI.move (h : RtI w0 w pre) (hb : Below w0.heap.size w0 w') (hz : w.heap.size ≤ w'.heap.size) (hk : ∀ k, k < w0.heap.size + 5 → k ≠ w0.heap.size + 2 → w'.heap[k]? = w.heap[k]?) : RtI w0 w' pre :=
  ⟨hb, (hk _ (by omega) (by omega)).trans h.res, (hk _ (by omega) (by omega)).trans h.cnt, by have := h.str; omega, (hk _ (by omega) (by omega)).trans h.sep, (hk _ (by omega) (by omega)).trans h.sav, h.ok⟩
theorem RtI.size (h : RtI w0 w pre) : w0.heap.size + 5 ≤ w.heap.size := by have := blk_lt h.sav; omega
theorem RtI.alloc (h : RtI w0 w pre) (o : Obj) : RtI w0 (w.alloc o) pre :=
  h.move (h.bel.alloc h.bel.size o) (by simp) (fun k hk _ => heap_alloc_old w o k (by have := h.size; omega))
theorem RtI.put (h : RtI w0 w pre) {k : Nat} (o : Obj) (hk : w0.heap.size + 5 ≤ k) : RtI w0 (w.putObj k o) pre :=
  h.move (h.bel.grown (grownBy_putObj' w k o) h.bel.size (fun j e => by cases e; omega)) (by simp) (fun j hj _ => World.putObj_heap_other (by omega))
theorem RtI.turn (h : RtI w0 w pre) (v : Value) : RtI w0 (w.setCell ⟨w0.heap.size + 2, 0, none⟩ v) pre :=
  h.move (h.bel.setCell (p := ⟨w0.heap.size + 2, 0, none⟩) (by show w0.heap.size ≤ w0.heap.size + 2; omega) v) (by simp [World.setCell]) (fun j _ hj => block_setCell w _ v hj)
theorem RtX.put (h : RtX w0 w pre) {k : Nat} (o : Obj) (hk : w0.heap.size + 5 ≤ k) : RtX w0 (w.putObj k o) pre :=
  ⟨h.bel.grown (grownBy_putObj' w k o) h.bel.size (fun j e => by cases e; omega), (World.putObj_heap_other (by omega)).trans h.res, h.bad⟩
theorem RtI.below (h : RtI w0 w pre) (hB : Below w.heap.size w w') : RtI w0 w' pre :=
  h.move (h.bel.trans (hB.mono h.bel.size)) hB.size (fun k hk _ => hB.block k (by have := h.size; omega))
end
theorem wrap_next (n : Nat) : wrap64 (wrap64 (n : Int) + 1) = wrap64 (((n + 1 : Nat)) : Int) := by unfold wrap64; omega
theorem wrap_small (n : Nat) (h : n ≤ 200000000000000) : wrap64 (n : Int) = (n : Int) := by unfold wrap64; omega
theorem keeps_below {w w' : World} (hB : Below w.heap.size w w') : KeepsOthers w w' := ⟨hB.size, fun k o hk _ => (hB.block k (Array.getElem?_eq_some_iff.1 hk).1).trans hk⟩
theorem cell_result {fn : Func} {p : Tmp} {ty : TypeId} (h : fn.results = #[.cell p ty]) (tmps : Array Value) (P : Program) (w : World) (g : Nat) (v : Value) (t : TypeId) (hp : tmps.getD p undef = .pointer (some ⟨g, 0, none⟩)) (hg : w.heap[g]? = some (.cells #[v] t (0, 0)))
    (hl : (loadVar ty ⟨g, 0, none⟩).run P w = .ok v w) : (results fn tmps).run P w = .ok v w := by
  have hp' : tmps[p]?.getD undef = .pointer (some ⟨g, 0, none⟩) := by simpa using hp
  simp [results, h, hp', asAddr, hl]
theorem load_bool (w : World) (g : Nat) (b : Bool) (t : TypeId) (hg : w.heap[g]? = some (.cells #[.bool b] t (0, 0))) : (loadVar 4 ⟨g, 0, none⟩).run Tryd.prog w = .ok (.bool b) w := by
  have hc : w.cell? ⟨g, 0, none⟩ = some (.bool b) := blk_cell hg 0
  have hu := Tryd.underlying4
  simp [loadVar, Sem.run_bind, go_sem, hc, hu]
  done
theorem laid5 (w : World) (a b c d e : Obj) : ∃ W, W = ((((w.alloc a).alloc b).alloc c).alloc d).alloc e ∧ W.heap.size = w.heap.size + 5 ∧ W.heap[w.heap.size]? = some a ∧ W.heap[w.heap.size + 1]? = some b ∧ W.heap[w.heap.size + 2]? = some c ∧ W.heap[w.heap.size + 3]? = some d ∧ W.heap[w.heap.size + 4]? = some e ∧ Below w.heap.size w W := by
  have s1 : (w.alloc a).heap.size = w.heap.size + 1 := by simp
  have s2 : ((w.alloc a).alloc b).heap.size = w.heap.size + 2 := by simp
  have s3 : (((w.alloc a).alloc b).alloc c).heap.size = w.heap.size + 3 := by simp
  have s4 : ((((w.alloc a).alloc b).alloc c).alloc d).heap.size = w.heap.size + 4 := by simp
  have n0 := heap_alloc_new w a
  have n1 := heap_alloc_new (w.alloc a) b
  have n2 := heap_alloc_new ((w.alloc a).alloc b) c
  have n3 := heap_alloc_new (((w.alloc a).alloc b).alloc c) d
  have n4 := heap_alloc_new ((((w.alloc a).alloc b).alloc c).alloc d) e
  rw [s1] at n1
  rw [s2] at n2
  rw [s3] at n3
  rw [s4] at n4
  have B1 := (Below.refl w.heap.size w).alloc (Nat.le_refl _) a
  have B2 := B1.alloc (by omega) b
  have B3 := B2.alloc (by omega) c
  have B4 := B3.alloc (by omega) d
  have B5 := B4.alloc (by omega) e
  have o1 := fun k (h : k < w.heap.size + 1) => heap_alloc_old (w.alloc a) b k (by omega)
  have o2 := fun k (h : k < w.heap.size + 2) => heap_alloc_old ((w.alloc a).alloc b) c k (by omega)
  have o3 := fun k (h : k < w.heap.size + 3) => heap_alloc_old (((w.alloc a).alloc b).alloc c) d k (by omega)
  have o4 := fun k (h : k < w.heap.size + 4) => heap_alloc_old ((((w.alloc a).alloc b).alloc c).alloc d) e k (by omega)
  exact ⟨_, rfl, by simp, (o4 _ (by omega)).trans ((o3 _ (by omega)).trans ((o2 _ (by omega)).trans ((o1 _ (by omega)).trans n0))), (o4 _ (by omega)).trans ((o3 _ (by omega)).trans ((o2 _ (by omega)).trans n1)), (o4 _ (by omega)).trans ((o3 _ (by omega)).trans n2), (o4 _ (by omega)).trans n3, n4, B5⟩
theorem splitB_right (p : ByteArray) (h : ∀ x ∈ splitB p, partOk 16 (bl x) = true) : right 16 8 (bl p) = decide ((splitB p).length ≤ 8) := by
  unfold right splitB
  rw [List.length_map]
  rw [show (splitS (bl p)).all (partOk 16) = true from by
    rw [List.all_eq_true]
    intro y hy
    exact h (ba y) (List.mem_map_of_mem hy)]
  rfl
theorem splitB_wrong (p : ByteArray) (pre : List ByteArray) (hp : pre <+: splitB p) (h : ∃ x ∈ pre, partOk 16 (bl x) = false) : right 16 8 (bl p) = false := by
  obtain ⟨x, hx, hb⟩ := h
  obtain ⟨y, hy, rfl⟩ := List.mem_map.1 (hp.subset hx)
  unfold right
  rw [show (splitS (bl p)).all (partOk 16) = false from by
    rw [List.all_eq_false]
    exact ⟨y, hy, by rw [show partOk 16 y = false from hb]; simp⟩]
  rfl
theorem splitB_len (p : ByteArray) : (splitB p).length ≤ p.size + 1 := by
  unfold splitB
  rw [List.length_map, splitS_count, ← bl_size]
  have := List.count_le_length (a := (47 : UInt8)) (l := bl p)
  omega
set_option maxRecDepth 100000 in
set_option maxHeartbeats 4000000 in
theorem pright (p : ByteArray) (w : World) (hs : p.size ≤ 140737488351232) :
    Calls Tryd.prog 29 #[.string p] w fun e w' => e = .returned (.bool (right 16 8 (bl p))) ∧ Below w.heap.size w w' := by
  have HS := Lib.hid hs
  clear hs
  refine (callsIn_wide (n := 6)).1 ?_
  refine callsIn_of_wp_marks Tryd.func29 rfl trivial ?_ rfl
  simp only [Tryd.ntmps29, List.size_toArray, List.length_cons, List.length_nil, Nat.reduceAdd, Nat.reduceSub, Array.replicate_succ, Array.replicate_zero, List.push_toArray, List.append_toArray, List.nil_append, List.cons_append]
  gi_wp2_with fail
  refine ⟨trivial, ?_⟩
  refine (callsIn_wide.2 (splitseq_any p _)).mono ?_
  rintro e w1 ⟨rfl, rfl⟩
  gi_wp2_with fail
  obtain ⟨W0, hW0, hz, h0, h1, h2, h3, h4, hB0⟩ := laid5 w (.cells #[.bool false] 4) (.cells #[.int .i64 0] 3) (.cells #[.string p] 9) (.cells #[.string ⟨#[47]⟩] 9) (.cells #[.int .i64 0] 3)
  rw [← hW0]
  obtain ⟨b, hb⟩ : ∃ b, b = w.heap.size := ⟨_, rfl⟩
  have hst : RtI w W0 [] := ⟨hB0, h0, h1.trans (by rw [show wrap64 ((([] : List ByteArray).length : Nat) : Int) = 0 from by simp [wrap64]]), by omega, h3, h4, fun x hx => by cases hx⟩
  have hcs : W0.cell? ⟨w.heap.size + 2, 0, none⟩ = some (.string p) := blk_cell h2 0
  have hfs : W0.frozen? ⟨w.heap.size + 2, 0, none⟩ = false := blk_frozen h2 0
  refine range_cell (gf := 68) (lb := #[.pointer (some ⟨w.heap.size + 3, 0, none⟩), .pointer (some ⟨w.heap.size + 2, 0, none⟩), .pointer (some ⟨w.heap.size + 4, 0, none⟩)]) (K := SplitK (w.heap.size + 3) (w.heap.size + 4)) (p := ⟨w.heap.size + 2, 0, none⟩) (xs := splitB p) rfl (enters_of Tryd.func68 (by kernel_rfl) rfl)
    (by show w.heap.size + 2 < _; omega) (split_seq 5 (by decide) p (w.heap.size + 3) (w.heap.size + 2) (w.heap.size + 4) (by omega) (by omega) W0 HS.out hcs hfs) (fun _ => rfl) (fun pre W => RtI w W pre) (fun pre W => RtX w W pre)
    (fun s A o h => h.alloc o) (fun s A k o h hk => h.put o (by omega)) (fun s A k o h hk => h.put o (by omega)) (fun s A v h => h.turn v) (fun s A h => ⟨blk_cell h.sep 0, blk_cell h.sav 0⟩) hst
    (fun x => { tmps := #[.string p, undef, .pointer (some ⟨w.heap.size, 0, none⟩), .pointer (some ⟨w.heap.size + 1, 0, none⟩), .string x, .string p, .func (.func 68) #[] #[.pointer (some ⟨w.heap.size + 3, 0, none⟩), .pointer (some ⟨w.heap.size + 2, 0, none⟩), .pointer (some ⟨w.heap.size + 4, 0, none⟩)], .string x, undef, undef, undef, undef, undef, undef, undef], defers := [] }) ?assign ?body ?done ?stop (by decide)
  case assign =>
    intro l x W Ka hKa
    gi_wp2
    exact hKa
  case body =>
    intro l pre x W hI
    have HI := Lib.hid hI
    clear hI hst hcs hfs h0 h1 h2 h3 h4 hB0 hW0
    gi_wp2_with fail
    refine ⟨trivial, ?_⟩
    refine (CallsIn.inRound l (callsIn_wide.2 (ppart x W))).mono ?_
    obtain ⟨q, hq⟩ : ∃ q, q = partOk 16 (bl x) := ⟨_, rfl⟩
    rw [← hq]
    have HQ := Lib.hid hq
    rintro e W2 ⟨rfl, hB⟩
    have HI2 := Lib.hid (HI.out.below hB)
    have HKO := Lib.hid (keeps_below hB)
    have HC2 := Lib.hid (And.intro (hB.cell (p := ⟨w.heap.size + 2, 0, none⟩) HI.out.str) (hB.frozen (p := ⟨w.heap.size + 2, 0, none⟩) HI.out.str))
    have c0 : W2.cell? ⟨w.heap.size, 0, none⟩ = some (.bool false) := blk_cell HI2.out.res 0
    have c1 : W2.cell? ⟨w.heap.size + 1, 0, none⟩ = some (.int .i64 (wrap64 (pre.length : Int))) := blk_cell HI2.out.cnt 0
    have f0 := blk_frozen HI2.out.res 0
    have f1 := blk_frozen HI2.out.cnt 0
    have l0 := blk_lt HI2.out.res
    have l1 := blk_lt HI2.out.cnt
    clear hB hq
    have far : ∀ (k : Nat) (v : Value), k ≠ w.heap.size + 2 → (W2.setCell ⟨k, 0, none⟩ v).cell? ⟨w.heap.size + 2, 0, none⟩ = W2.cell? ⟨w.heap.size + 2, 0, none⟩ ∧ (W2.setCell ⟨k, 0, none⟩ v).frozen? ⟨w.heap.size + 2, 0, none⟩ = W2.frozen? ⟨w.heap.size + 2, 0, none⟩ := by
      intro k v hk
      have e : (W2.setCell ⟨k, 0, none⟩ v).heap[w.heap.size + 2]? = W2.heap[w.heap.size + 2]? := block_setCell W2 _ v (fun h => hk h.symm)
      exact ⟨World.cell?_of_block e, World.frozen?_of_block e⟩
    have HFAR := Lib.hid far
    clear far
    cases q with
    | true =>
      gi_wp2_with fail
      refine ⟨⟨HKO.out.trans (KeepsOthers.setCell _ _ _), ⟨HI2.out.bel.setCell (p := ⟨w.heap.size + 1, 0, none⟩) (by show w.heap.size ≤ w.heap.size + 1; omega) _, (block_setCell _ _ _ (by show w.heap.size ≠ w.heap.size + 1; omega)).trans HI2.out.res, ?_, ?_, (block_setCell _ _ _ (by show w.heap.size + 3 ≠ w.heap.size + 1; omega)).trans HI2.out.sep, (block_setCell _ _ _ (by show w.heap.size + 4 ≠ w.heap.size + 1; omega)).trans HI2.out.sav, ?_⟩⟩, HC2.out.1, HC2.out.2⟩
      · rw [blk_set HI2.out.cnt 0, wrap_next, List.length_append]
        rfl
      · have := HI2.out.str
        simp [World.setCell]
        exact this
      · intro y hy
        rcases List.mem_append.1 hy with hy | hy
        · exact HI2.out.ok y hy
        · obtain rfl := List.mem_singleton.1 hy
          exact HQ.out.symm
    | false =>
      gi_wp2_with fail
      refine ⟨⟨HKO.out.trans (KeepsOthers.setCell _ _ _), HI2.out.bel.setCell (p := ⟨w.heap.size, 0, none⟩) (Nat.le_refl _) _, ?_, x, by simp, HQ.out.symm⟩, fun h => by cases h⟩
      rw [blk_set HI2.out.res 0]
      rfl
  case done =>
    intro D W hD hI hK
    have HI := Lib.hid hI
    have HK := Lib.hid hK
    have hlen : (splitB p).length ≤ 200000000000000 := by have h1 := splitB_len p; have h2 := HS.out; omega
    have c1 : W.cell? ⟨w.heap.size + 1, 0, none⟩ = some (.int .i64 ((splitB p).length : Int)) := by rw [blk_cell hI.cnt 0, wrap_small _ hlen]; rfl
    have c0 : W.cell? ⟨w.heap.size, 0, none⟩ = some (.bool false) := blk_cell hI.res 0
    have f0 := blk_frozen hI.res 0
    have l0 := blk_lt hI.res
    have l1 := blk_lt hI.cnt
    clear hI hK hst hcs hfs h0 h1 h2 h3 h4 hB0 hW0
    gi_wp2_with fail
    obtain ⟨V, hV⟩ : ∃ V, V = W.setCell ⟨w.heap.size, 0, none⟩ (.bool (decide (((splitB p).length : Int) ≤ 8))) := ⟨_, rfl⟩
    rw [← hV]
    have hVD : V.heap[D]? = some (.deferred (some [])) := by rw [hV]; exact (block_setCell W _ _ (by show D ≠ w.heap.size; omega)).trans HK.out
    have hVr : V.heap[w.heap.size]? = some (.cells #[.bool (decide (((splitB p).length : Int) ≤ 8))] 4 (0, 0)) := by rw [hV, blk_set HI.out.res 0]; rfl
    have hVB : Below w.heap.size w V := by rw [hV]; exact HI.out.bel.setCell (p := ⟨w.heap.size, 0, none⟩) (Nat.le_refl _) _
    refine ⟨by simp, .inl ⟨_, _, rfl, run_takeDeferred hVD, ?_⟩⟩
    have hP : (V.putObj D (.deferred none)).heap[w.heap.size]? = some (.cells #[.bool (decide (((splitB p).length : Int) ≤ 8))] 4 (0, 0)) := (World.putObj_heap_other (by omega)).trans hVr
    refine ⟨_, cell_result rfl _ _ _ w.heap.size _ _ rfl hP (load_bool _ _ _ _ hP), ?_, hVB.grown (grownBy_putObj' V D (.deferred none)) hVB.size (fun j e => by cases e; omega)⟩
    rw [splitB_right p HI.out.ok]
    congr 2
    rw [decide_eq_decide]
    omega
  case stop =>
    intro D pre W hD hpre hX hK
    clear hst hcs hfs h0 h1 h2 h3 h4 hB0 hW0
    gi_wp2_with fail
    refine ⟨by simp, .inl ⟨_, _, rfl, run_takeDeferred hK, ?_⟩⟩
    have hP : (W.putObj D (.deferred none)).heap[w.heap.size]? = some (.cells #[.bool false] 4 (0, 0)) := (World.putObj_heap_other (by omega)).trans hX.res
    refine ⟨_, cell_result rfl _ _ _ w.heap.size _ _ rfl hP (load_bool _ _ _ _ hP), ?_, hX.bel.grown (grownBy_putObj' W D (.deferred none)) hX.bel.size (fun j e => by cases e; omega)⟩
    rw [splitB_wrong p pre hpre hX.bad]
end Go.Proofs.YtijfedahhgcfpaaDoor
