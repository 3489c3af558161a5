/- The library's strings.Builder at this program (after the shelf's walks of the same functions, turned to this program's numbers), and bytes of strings. -/
import Derived.Test.YtnjdighpdcabcaaProg
import Derived.Shelf.Strings.Builder1
import Derived.Laws.Externs
import Derived.Test.YtnjdighpdcabcaaSb
import Derived.Test.YtnjdighpdcabcaaShelf
set_option linter.unusedVariables false
set_option linter.unusedSimpArgs false
namespace Go.Proofs.Ytnjdighpdcabcaa
open Go.RowKit

theorem ptr_under : Try.prog.underlying 75 = some (.pointer 77) := by kernel_rfl
theorem unsafe_under : Try.prog.underlying 109 = some .unsafePointer := by kernel_rfl
theorem builder_info : (Try.prog.info? 77).map (·.size) = some 2 := by kernel_rfl

set_option maxHeartbeats 1000000 in
set_option maxRecDepth 100000 in
theorem copyCheck_used (b : Nat) (w : World) (h0 : w.cell? ⟨b, 0, none⟩ = some (.pointer (some ⟨b, 0, none⟩))) :
    Calls Try.prog 64 #[.pointer (some ⟨b, 0, none⟩)] w fun e w' => e = .returned (.tuple #[]) ∧ w' = w := by
  obtain ⟨j, hj, _⟩ := Option.map_eq_some_iff.1 builder_info
  go_enter Try.func64, Try.ntmps64
  go_wp2
  rw [Lib.run_neq_ptr_same w _ ptr_under hj]
  go_wp2
  go_end0
  exact ⟨rfl, rfl⟩

set_option maxHeartbeats 1000000 in
set_option maxRecDepth 100000 in
theorem copyCheck_fresh (b : Nat) (w : World) (h0 : w.cell? ⟨b, 0, none⟩ = some (.pointer none)) (hsh : w.shape? b = some (77, 2)) (hfz : w.frozen? ⟨b, 0, none⟩ = false) :
    Calls Try.prog 64 #[.pointer (some ⟨b, 0, none⟩)] w fun e w' => e = .returned (.tuple #[]) ∧ w' = w.setCell ⟨b, 0, none⟩ (.pointer (some ⟨b, 0, none⟩)) := by
  obtain ⟨j, hj, hjs⟩ := Option.map_eq_some_iff.1 builder_info
  go_enter Try.func64, Try.ntmps64
  go_wp2
  rw [Lib.run_to_unsafe w ⟨b, 0, none⟩ ptr_under unsafe_under hj (by rw [hjs]; decide) hsh (Nat.zero_lt_succ 1)]
  simp only [Result.andThen]
  rw [Oper.upon_value]
  go_wp2
  rw [run_callFunc_extern Try.func74 (by kernel_rfl) (by kernel_rfl) (by kernel_rfl) (e := Extern.AbiNoEscape.same) (by kernel_rfl)]
  rw [Lib.run_noEscape]
  simp only [Result.andThen]
  rw [Oper.upon_value]
  go_wp2
  rw [Lib.run_from_unsafe w ⟨b, 0, none⟩ unsafe_under ptr_under hj hsh (by kernel_rfl)]
  simp only [Result.andThen]
  rw [Oper.upon_value]
  go_wp2
  go_end0
  exact ⟨rfl, rfl⟩

theorem copyCheck_any (B b : Nat) (bs : List Value) (w : World) (h : Lib.IsBuilder 77 5 B b bs w) :
    Calls Try.prog 64 #[.pointer (some ⟨b, 0, none⟩)] w fun e w' => e = .returned (.tuple #[]) ∧ (Lib.BuilderAt 77 5 B b (.pointer (some ⟨b, 0, none⟩)) bs w' ∧ Below B w w') := by
  rcases h with h | h
  · refine (copyCheck_fresh b w h.cell0 h.shape h.frozen0).mono ?_
    rintro e w' ⟨rfl, rfl⟩
    exact ⟨rfl, h.used _, (Below.refl B w).setCell (p := ⟨b, 0, none⟩) h.1 _⟩
  · refine (copyCheck_used b w h.cell0).mono ?_
    rintro e w' ⟨rfl, rfl⟩
    exact ⟨rfl, h, Below.refl B _⟩

set_option maxHeartbeats 2000000 in
set_option maxRecDepth 100000 in
theorem writeByte_any (B b : Nat) (bs : List Value) (c : Int) (w : World) (h : Lib.IsBuilder 77 5 B b bs w) (hlen : bs.length + 1 ≤ 140737488355328) (hBw : B ≤ w.heap.size) :
    Calls Try.prog 50 #[.pointer (some ⟨b, 0, none⟩), .int .u8 c] w fun e w' => e = .returned .nilIface ∧ (Lib.BuilderAt 77 5 B b (.pointer (some ⟨b, 0, none⟩)) (bs ++ [.int .u8 c]) w' ∧ Below B w w') := by
  obtain ⟨i0, hi, hz0, hz1, hz2⟩ := info_parts (show (Try.prog.info? 5).map (fun i => (i.zero, i.size, i.bytes)) = some (some (.int .u8 0), 1, 1) from by kernel_rfl)
  go_enter Try.func50, Try.ntmps50
  go_wp2_with (go_at_call 64; refine (copyCheck_any B b bs _ h).mono ?_)
  rintro e w1 ⟨rfl, h1, hb1⟩
  obtain ⟨hB, v, hbk, hown, hne⟩ := h1
  have c0 : w1.cell? ⟨b, 0, none⟩ = some (.pointer (some ⟨b, 0, none⟩)) := by rw [Lib.cell_of_heap hbk]; rfl
  have c1 : w1.cell? ⟨b, 1, none⟩ = some v := by rw [Lib.cell_of_heap hbk]; rfl
  go_wp2_with (at_builtin; refine wpList_append_own _ rfl _ _ 32 rfl B 5 i0 (.int .u8 0) 1 1 (by rfl) hi hz0 hz1 hz2 rfl (by decide) _ _ _ rfl (hown.alloc _) ⟨w1.heap.size, 0, none⟩ 1 1 [.int .u8 c] rfl rfl ?c1 ?c2 ?c3 ?c4 ?c5 ?_)
  case c1 =>
    intro j u hj
    match j, hj with
    | 0, hj => simp at hj; subst hj; simp [Addr.add]
  case c2 => intro u hu; simp at hu; subst hu; rfl
  case c3 => unfold maxLen; omega
  case c4 => omega
  case c5 => have := hb1.size; simp; omega
  intro v' w2 hown' hgrow _
  have hlt : b < w1.heap.size := by
    rcases Nat.lt_or_ge b w1.heap.size with h' | h'
    · exact h'
    · simp [Array.getElem?_eq_none h'] at hbk
  have hb2 : w2.heap[b]? = some (.cells #[.pointer (some ⟨b, 0, none⟩), v] 77 (0, 0)) := by
    rw [hgrow.block b (by simp; omega) (fun e => hne e.symm), Lib.alloc_old w1 _ b hlt]
    exact hbk
  have d0 : w2.cell? ⟨b, 0, none⟩ = some (.pointer (some ⟨b, 0, none⟩)) := by rw [Lib.cell_of_heap hb2]; rfl
  have d1 : w2.cell? ⟨b, 1, none⟩ = some v := by rw [Lib.cell_of_heap hb2]; rfl
  have f1 : w2.frozen? ⟨b, 1, none⟩ = false := Lib.frozen_of_heap hb2 1
  obtain ⟨g, cap, rfl⟩ : ∃ g cap, v' = .slice (some ⟨g, 0, none⟩) (bs.length + 1) cap := by
    rcases hown'.2 with ⟨_, h0⟩ | ⟨g, cap, cur, hv, _⟩
    · omega
    · exact ⟨g, cap, hv⟩
  go_wp2
  go_ret
  refine ⟨rfl, ?_, ?_⟩
  · exact Lib.BuilderAt.put (T := 77) (e := 5) hB hb2 (bs' := bs ++ [.int .u8 c]) (by simpa using hown') (by decide)
  · exact ((hb1.alloc (by have := hb1.size; omega) _).grown hgrow (by have := hb1.size; simp; omega) (fun k hk => (hown.lt k hk).1)).setCell (p := ⟨b, 1, none⟩) hB _
end Go.Proofs.Ytnjdighpdcabcaa
/- The walk of sha's Name. -/
set_option linter.unusedVariables false
set_option linter.unusedSimpArgs false
namespace Go.Proofs.Ytnjdighpdcabcaa
open Go.RowKit Go.Proofs.YtnjdighpdcabcaaW.PrintWords Go.Proofs.YtnjdighpdcabcaaW.PrintLast

def digitL : List UInt8 := [48, 49, 50, 51, 52, 53, 54, 55, 56, 57, 97, 98, 99, 100, 101, 102]
def dig (n : Nat) : UInt8 := digitL.getD n 0
def hexL : List (BitVec 8) → List UInt8
  | [] => []
  | x :: xs => dig (x.toNat / 16) :: dig (x.toNat % 16) :: hexL xs
theorem hexL_append (xs ys : List (BitVec 8)) : hexL (xs ++ ys) = hexL xs ++ hexL ys := by
  induction xs with
  | nil => rfl
  | cons x xs ih => simp [hexL, ih]
theorem hexL_length (xs : List (BitVec 8)) : (hexL xs).length = 2 * xs.length := by
  induction xs with
  | nil => rfl
  | cons x xs ih => simp [hexL, ih]; omega
def name (bs : List (BitVec 8)) : ByteArray := ⟨(hexL (sum bs)).toArray⟩

theorem index_agg (S : List (BitVec 8)) (hl : S.length = 32) (i : Nat) (hi : i < 32) (w : World) : Sem.run Try.prog (Instr.index 63 (.agg (bcells S)) (.int .i64 i)) w = .ok (.int .u8 (byt (S.getD i 0))) w := by
  have hu : Try.prog.underlying 63 = some (.array 32 5) := by kernel_rfl
  have hget : (bcells S)[i]? = some (.int .u8 (byt (S.getD i 0))) := by
    simp [bcells, List.getElem?_eq_getElem (show i < S.length by omega), List.getD_eq_getElem?_getD]
  have hag : (isAgg 5).run Try.prog w = .ok false w := by kernel_rfl
  have hsz : (sizeOf 5).run Try.prog w = .ok 1 w := by kernel_rfl
  simp [Instr.index, run_underlying hu, asInt, asIntOf, hi, part, hag, hsz, hget]
theorem dig_at (n : Nat) (h : n < (⟨#[48, 49, 50, 51, 52, 53, 54, 55, 56, 57, 97, 98, 99, 100, 101, 102]⟩ : ByteArray).size) : (⟨#[48, 49, 50, 51, 52, 53, 54, 55, 56, 57, 97, 98, 99, 100, 101, 102]⟩ : ByteArray)[n] = dig n := by
  have : ∀ n : Fin 16, (⟨#[48, 49, 50, 51, 52, 53, 54, 55, 56, 57, 97, 98, 99, 100, 101, 102]⟩ : ByteArray)[n.val]'(n.isLt) = dig n.val := by decide
  exact this ⟨n, h⟩
theorem hexL_take (S : List (BitVec 8)) (i : Nat) (h : i < S.length) : hexL (S.take (i + 1)) = hexL (S.take i) ++ [dig ((S.getD i 0).toNat / 16)] ++ [dig ((S.getD i 0).toNat % 16)] := by
  rw [List.take_succ_eq_append_getElem h, hexL_append]
  simp [hexL, List.getD_eq_getElem?_getD, List.getElem?_eq_getElem h]
set_option maxRecDepth 100000 in
theorem and15 (n : Nat) (h : n < 256) : bits .and .u8 (n : Int) 15 = ((n % 16 : Nat) : Int) := by
  have : ∀ n : Fin 256, bits .and .u8 (n.val : Int) 15 = ((n.val % 16 : Nat) : Int) := by decide
  exact this ⟨n, h⟩

set_option maxRecDepth 100000 in
set_option maxHeartbeats 4000000 in
theorem name_any (cp : Nat) (A : Option Addr) (bs : List (BitVec 8)) (w : World)
    (hb : Kd.C (Kd.int .u8) w A bs.length (bs.map byt)) (hc : bs.length ≤ cp) (hl : bs.length < 1000000000) :
    Calls Try.prog 34 #[.slice A bs.length cp] w fun e w' =>
      e = .returned (.string (name bs)) ∧ Below w.heap.size w w' := by
  have HC := Lib.hid hb
  clear hb
  go_enter Try.func34, Try.ntmps34
  go_wp2_with fail
  have hA : Below w.heap.size w (w.alloc (.cells #[.pointer none, .slice none 0 0] 77)) := (Below.refl _ _).alloc (Nat.le_refl _) _
  refine (sum_any cp A bs _ (Kd.C_below HC.out hA) hc hl).mono ?_
  rintro e w1 ⟨rfl, hB⟩
  have hbk : w1.heap[w.heap.size]? = some (.cells #[.pointer none, .slice none 0 0] 77 (0, 0)) := (hB.block _ (by simp)).trans (blk_new w _)
  have hI : Lib.IsBuilder 77 5 w.heap.size w.heap.size (Lib.byteCells (hexL ((sum bs).take 0))) w1 := Or.inl ⟨Nat.le_refl _, .slice none 0 0, hbk, ⟨by simp [hexL, Lib.byteCells], Or.inl ⟨rfl, by simp [hexL, Lib.byteCells]⟩⟩, by simp [Value.ownBlock]⟩
  have HI := Lib.hid hI
  have HB := Lib.hid (hA.trans (hB.mono (by simp)))
  clear hbk hI hA hB
  obtain ⟨S, hSe⟩ : ∃ S, S = sum bs := ⟨_, rfl⟩
  have hSl : S.length = 32 := by rw [hSe]; exact out_length _
  have HS := Lib.hid hSe
  rw [← hSe]
  clear hSe
  go_wp2_with fail
  go_loopw [8] (fun v wr => ∃ i : Nat, i ≤ 32 ∧ v = .int .i64 i ∧ Lib.IsBuilder 77 5 w.heap.size w.heap.size (Lib.byteCells (hexL (S.take i))) wr ∧ Below w.heap.size w wr) (fun v _ => 32 - (intOf v).toNat)
  case atStart => exact ⟨0, by omega, rfl, by have := HI.out; rw [← HS.out] at this; exact this, HB.out⟩
  case round =>
    obtain ⟨i, hi, rfl, hI, hB⟩ := hrel
    clear HI HB
    have HI := Lib.hid hI
    have HB := Lib.hid hB
    clear hI hB
    by_cases hi32 : i < 32
    · have d1 : decide ((i : Int) < 32) = true := decide_eq_true (by omega)
      have hi1 : (i : Int) < 32 := by omega
      go_wp2_with fail
      rw [index_agg S hSl i hi32]
      obtain ⟨c, hc0⟩ : ∃ c, c = S.getD i 0 := ⟨_, rfl⟩
      obtain ⟨n, hn⟩ : ∃ n : Nat, n = c.toNat := ⟨_, rfl⟩
      have hn256 : n < 256 := by rw [hn]; exact c.isLt
      rw [← hc0, show byt c = (n : Int) by rw [hn]; rfl]
      have HCC := Lib.hid hc0
      have HN := Lib.hid hn
      clear hc0 hn
      go_wp2_with fail
      refine (writeByte_any w.heap.size w.heap.size _ _ wr HI.out (by rw [Lib.byteCells_length, hexL_length, List.length_take]; omega) HB.out.size).mono ?_
      rintro e w2 ⟨rfl, hI2, hB2⟩
      rw [dig_at] at hI2
      have hn15 := and15 n hn256
      have HI2 := Lib.hid hI2
      have HB2 := Lib.hid hB2
      clear hI2 hB2
      go_wp2_with fail
      refine (writeByte_any w.heap.size w.heap.size _ _ w2 (Or.inr HI2.out) (by rw [List.length_append, Lib.byteCells_length, hexL_length, List.length_take]; simp; omega) (HB.out.trans HB2.out).size).mono ?_
      rintro e w3 ⟨rfl, hI3, hB3⟩
      rw [dig_at] at hI3
      have e : Lib.byteCells (hexL (S.take i)) ++ [.int .u8 ((dig (n / 16)).toNat : Int)] ++ [.int .u8 ((dig (n % 16)).toNat : Int)] = Lib.byteCells (hexL (S.take (i + 1))) := by
        rw [hexL_take S i (by omega), ← HCC.out, ← HN.out]
        simp [Lib.byteCells]
      rw [e] at hI3
      have HI3 := Lib.hid hI3
      have HB3 := Lib.hid hB3
      clear e hI3 hB3 hn15
      go_wp2_with fail
      exact ⟨⟨i + 1, by omega, by go_num, Or.inr HI3.out, (HB.out.trans HB2.out).trans HB3.out⟩, by simp [intOf]; omega⟩
    · obtain rfl : i = 32 := by omega
      go_wp2_with fail
      refine (Try.Builder_String_any w.heap.size w.heap.size (hexL (S.take 32)) wr HI.out HB.out.size).mono ?_
      rintro e w2 ⟨rfl, hB2⟩
      have HB2 := Lib.hid hB2
      clear hB2
      rw [List.take_of_length_le (by omega)]
      go_wp2_with fail
      go_ret
      exact ⟨by rw [name, HS.out]; rfl, HB.out.trans HB2.out⟩
end Go.Proofs.Ytnjdighpdcabcaa
/- Two sums, by evaluation. -/
set_option linter.unusedVariables false
namespace Go.Proofs.Ytnjdighpdcabcaa
open Go.RowKit
theorem name_abc : name [97#8, 98#8, 99#8] = ⟨#[98, 97, 55, 56, 49, 54, 98, 102, 56, 102, 48, 49, 99, 102, 101, 97, 52, 49, 52, 49, 52, 48, 100, 101, 53, 100, 97, 101, 50, 50, 50, 51, 98, 48, 48, 51, 54, 49, 97, 51, 57, 54, 49, 55, 55, 97, 57, 99, 98, 52, 49, 48, 102, 102, 54, 49, 102, 50, 48, 48, 49, 53, 97, 100]⟩ := by kernel_rfl
theorem name_nil : name [] = ⟨#[101, 51, 98, 48, 99, 52, 52, 50, 57, 56, 102, 99, 49, 99, 49, 52, 57, 97, 102, 98, 102, 52, 99, 56, 57, 57, 54, 102, 98, 57, 50, 52, 50, 55, 97, 101, 52, 49, 101, 52, 54, 52, 57, 98, 57, 51, 52, 99, 97, 52, 57, 53, 57, 57, 49, 98, 55, 56, 53, 50, 98, 56, 53, 53]⟩ := by kernel_rfl
end Go.Proofs.Ytnjdighpdcabcaa
