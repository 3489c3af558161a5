/- strings.SplitSeq at one byte: the iterator's contract. -/
import Derived.Test.YtfiemgadoglhiaaDoorSeqA
import Derived.Test.YtfiemgadoglhiaaDoorPathB
import Derived.Test.YtfiemgadoglhiaaDoorShelf
import Derived.Test.YtfiemgadoglhiaaDoorProg
import Derived.RangeFuncNested
import Derived.RangeFuncBound
import Derived.RangeFuncCalls
import Derived.RangeFuncLeaves
import Derived.Shelf.Abstract
import Derived.Shelf.RegionOpen
import Derived.WalkKit
import Derived.OwnWalkIn
import Derived.TacticsInMore
import Derived.LoopNIn
import Derived.LoopIn
import Derived.Lib.Hide
set_option linter.unusedVariables false
set_option linter.unusedSimpArgs false
namespace Go.Proofs.YtfiemgadoglhiaaDoor
open Go Go.RowKit Go.Shelf
attribute [local go_sem] Oper.semAt_some

def splitB (s : ByteArray) : List ByteArray := (splitS (bl s)).map ba
theorem splitB_last (s : ByteArray) (h : Lib.indexByte s.data.toList 47 < 0) : splitB s = [s] := by
  have hx : Lib.indexByte (bl s) 47 < 0 := h
  unfold splitB
  rw [splitS_step, if_pos hx]
  rfl
theorem splitB_more (s : ByteArray) (k : Nat) (h : Lib.indexByte s.data.toList 47 = k) : splitB s = s.extract 0 k :: splitB (s.extract (k + 1) s.size) := by
  have hx : Lib.indexByte (bl s) 47 = (k : Int) := h
  have e1 : ba ((bl s).take k) = s.extract 0 k := by rw [← bl_inj, bl_ba, bl_extract, List.drop_zero]
  have e2 : (bl s).drop (k + 1) = bl (s.extract (k + 1) s.size) := by rw [bl_extract, List.take_of_length_le (by rw [bl_size]; exact Nat.le_refl _)]
  show (splitS (bl s)).map ba = _
  rw [splitS_step, if_neg (by omega), hx, Int.toNat_natCast, List.map_cons, e1, e2]
  rfl
def cellLen (p : Addr) (w : World) : Nat := match w.cell? p with
  | some (.string r) => r.size
  | _ => 0
def SplitK (bsep bsv : Nat) (A : World) : Prop := A.cell? ⟨bsep, 0, none⟩ = some (.string ⟨#[47]⟩) ∧ A.cell? ⟨bsv, 0, none⟩ = some (.int .i64 0)

set_option maxRecDepth 100000 in
set_option maxHeartbeats 4000000 in
theorem split_seq (n : Nat) (hn : 2 ≤ n) (s : ByteArray) (bsep bs bsv : Nat) (h1 : bsep ≠ bs) (h2 : bsv ≠ bs) (W : World) (hs : s.size ≤ 140737488351232) (hc : W.cell? ⟨bs, 0, none⟩ = some (.string s)) (hf : W.frozen? ⟨bs, 0, none⟩ = false) :
    SeqCell n Tryd.prog 31 #[.pointer (some ⟨bsep, 0, none⟩), .pointer (some ⟨bs, 0, none⟩), .pointer (some ⟨bsv, 0, none⟩)] (fun x : ByteArray => #[.string x]) (SplitK bsep bsv) ⟨bs, 0, none⟩ (splitB s) W := by
  intro l J Jx hK hJc hY A hJ0 hAc hAf
  rw [hc] at hAc
  rw [hf] at hAf
  clear hc hf
  refine callsIn_of_wp Tryd.func31 rfl trivial ?_ rfl
  simp only [Tryd.ntmps31, List.size_toArray, List.length_cons, List.length_nil, Nat.reduceAdd, Nat.reduceSub, Array.replicate_succ, Array.replicate_zero, List.push_toArray, List.append_toArray, List.nil_append, List.cons_append]
  obtain ⟨k1, k2⟩ := hK [] A hJ0
  gi_wp2
  gi_loopw [] (fun wr => ∃ (pre : List ByteArray) (rest : ByteArray), splitB s = pre ++ splitB rest ∧ J pre wr ∧ wr.cell? ⟨bs, 0, none⟩ = some (.string rest) ∧ wr.frozen? ⟨bs, 0, none⟩ = false ∧ rest.size ≤ 140737488351232) (fun wr => cellLen ⟨bs, 0, none⟩ wr)
  case atStart => exact ⟨[], s, rfl, hJ0, hAc, hAf, hs⟩
  case round =>
    clear hAc hAf hJ0 hs k1 k2
    obtain ⟨pre, rest, hsp, hJ, hcell, hfr, hsz⟩ := hrel
    obtain ⟨k1, k2⟩ := hK pre wr hJ
    have HSP := Lib.hid hsp
    have HJ := Lib.hid hJ
    have HK := Lib.hid hK
    have HJC := Lib.hid hJc
    clear hsp hK hJc
    by_cases hneg : Lib.indexByte rest.data.toList 47 < 0
    · obtain ⟨fn, tmps, assign, body, hy, hR⟩ := hY pre rest wr hJ
      have HN := Lib.hid (splitB_last rest hneg)
      gi_wp2_with fail
      refine ⟨trivial, fun _ => by omega, ?_⟩
      refine (callsIn_wide.2 (Tryd.strings_Index_one rest 47 _)).mono ?_
      rintro e w' ⟨rfl, rfl⟩
      gi_wp2_with fail
      refine ⟨fun _ => by omega, ?_⟩
      refine hR.mono ?_
      rintro e W3 (⟨rfl, hJ3, hc3, hf3⟩ | ⟨rfl, hJx3⟩)
      · gi_wp2
        go_end0
        refine ⟨⟨_, rfl⟩, .inl ?_⟩
        rw [HSP.out, HN.out]
        exact hJ3
      · gi_wp2
        go_end0
        refine ⟨⟨_, rfl⟩, .inr ⟨_, ?_, hJx3⟩⟩
        rw [HSP.out, HN.out]
        exact List.prefix_refl _
    · obtain ⟨k, hk⟩ : ∃ k : Nat, Lib.indexByte rest.data.toList 47 = k := ⟨(Lib.indexByte rest.data.toList 47).toNat, by omega⟩
      have hlt := indexByte_lt rest.data.toList 47
      have hrl : rest.data.toList.length = rest.size := rfl
      have hk1 : k < rest.size := by omega
      have HM := Lib.hid (splitB_more rest k hk)
      obtain ⟨fn, tmps, assign, body, hy, hR⟩ := hY pre (rest.extract 0 k) wr hJ
      have e1 : ¬ ((k : Int) < 0) := by omega
      have e2 : (k : Int) ≤ (rest.size : Int) := by omega
      have e3 : (k : Int) + 1 ≤ (rest.size : Int) := by omega
      have e4 : (0 : Int) ≤ (k : Int) + 1 := by omega
      have HCL := Lib.hid (show cellLen ⟨bs, 0, none⟩ wr = rest.size by unfold cellLen; rw [hcell])
      clear hneg hlt hrl
      gi_wp2_with fail
      refine ⟨trivial, fun _ => by omega, ?_⟩
      refine (callsIn_wide.2 (Tryd.strings_Index_one rest 47 _)).mono ?_
      rw [hk]
      rintro e w' ⟨rfl, rfl⟩
      gi_wp2_with fail
      refine ⟨fun _ => by omega, ?_⟩
      refine hR.mono ?_
      rintro e W3 (⟨rfl, hJ3, hc3, hf3⟩ | ⟨rfl, hJx3⟩)
      · have hc4 := hc3.trans hcell
        have hf4 := hf3.trans hfr
        obtain ⟨m1, m2⟩ := HK.out _ W3 hJ3
        have HJ3 := Lib.hid hJ3
        clear hc3 hf3 hcell hfr k1 k2 hJ hJ3
        gi_wp2
        go_roundw
        case rel =>
          refine ⟨pre ++ [rest.extract 0 k], rest.extract (k + 1) rest.size, ?_, HJC.out _ _ _ HJ3.out, World.cell?_setCell_same' _ _ _ (by rw [hc4]; rfl), by rw [World.frozen?_setCell]; exact hf4, by rw [ByteArray.size_extract]; omega⟩
          rw [HSP.out, HM.out, List.append_assoc]
          rfl
        case measure =>
          rw [HCL.out]
          unfold cellLen
          rw [World.cell?_setCell_same' _ _ _ (by rw [hc4]; rfl)]
          simp only [ByteArray.size_extract]
          omega
      · gi_wp2
        refine bodyPost_ret (results_none rfl _ _ _) rfl ?_
        refine ⟨⟨_, rfl⟩, .inr ⟨_, ?_, hJx3⟩⟩
        rw [HSP.out, HM.out]
        exact ⟨splitB (rest.extract (k + 1) rest.size), by simp⟩
end Go.Proofs.YtfiemgadoglhiaaDoor
