/- The walk of sha's Name. -/
import Derived.Test.YtbnkpfflfiehjaaSha2
import Derived.Test.YtbnkpfflfiehjaaShaN
import Derived.Test.YtbnkpfflfiehjaaShelf
set_option linter.unusedVariables false
set_option linter.unusedSimpArgs false
namespace Go.Proofs.Ytbnkpfflfiehjaa
open Go.RowKit Go.Proofs.YtbnkpfflfiehjaaW.PrintWords Go.Proofs.YtbnkpfflfiehjaaW.PrintLast

def digitL : List UInt8 := [48, 49, 50, 51, 52, 53, 54, 55, 56, 57, 97, 98, 99, 100, 101, 102]
def dig (n : Nat) : UInt8 := digitL.getD n 0
def hexL : List (BitVec 8) → List UInt8
  | [] => []
  | x :: xs => dig (x.toNat / 16) :: dig (x.toNat % 16) :: hexL xs
theorem hexL_append (xs ys : List (BitVec 8)) : hexL (xs ++ ys) = hexL xs ++ hexL ys := by
  induction xs with
  | nil => rfl
  | cons x xs ih => simp [hexL, ih]
theorem hexL_length (xs : List (BitVec 8)) : (hexL xs).length = 2 * xs.length := by
  induction xs with
  | nil => rfl
  | cons x xs ih => simp [hexL, ih]; omega
def name (bs : List (BitVec 8)) : ByteArray := ⟨(hexL (sum bs)).toArray⟩

theorem index_agg (S : List (BitVec 8)) (hl : S.length = 32) (i : Nat) (hi : i < 32) (w : World) : Sem.run Try.prog (Instr.index 24 (.agg (bcells S)) (.int .i64 i)) w = .ok (.int .u8 (byt (S.getD i 0))) w := by
  have hu : Try.prog.underlying 24 = some (.array 32 5) := by rfl
  have hget : (bcells S)[i]? = some (.int .u8 (byt (S.getD i 0))) := by
    simp [bcells, List.getElem?_eq_getElem (show i < S.length by omega), List.getD_eq_getElem?_getD]
  have hag : (isAgg 5).run Try.prog w = .ok false w := by rfl
  have hsz : (sizeOf 5).run Try.prog w = .ok 1 w := by rfl
  simp [Instr.index, run_underlying hu, asInt, asIntOf, hi, part, hag, hsz, hget]
theorem dig_at (n : Nat) (h : n < (⟨#[48, 49, 50, 51, 52, 53, 54, 55, 56, 57, 97, 98, 99, 100, 101, 102]⟩ : ByteArray).size) : (⟨#[48, 49, 50, 51, 52, 53, 54, 55, 56, 57, 97, 98, 99, 100, 101, 102]⟩ : ByteArray)[n] = dig n := by
  have : ∀ n : Fin 16, (⟨#[48, 49, 50, 51, 52, 53, 54, 55, 56, 57, 97, 98, 99, 100, 101, 102]⟩ : ByteArray)[n.val]'(n.isLt) = dig n.val := by decide
  exact this ⟨n, h⟩
theorem hexL_take (S : List (BitVec 8)) (i : Nat) (h : i < S.length) : hexL (S.take (i + 1)) = hexL (S.take i) ++ [dig ((S.getD i 0).toNat / 16)] ++ [dig ((S.getD i 0).toNat % 16)] := by
  rw [List.take_succ_eq_append_getElem h, hexL_append]
  simp [hexL, List.getD_eq_getElem?_getD, List.getElem?_eq_getElem h]
set_option maxRecDepth 100000 in
theorem and15 (n : Nat) (h : n < 256) : bits .and .u8 (n : Int) 15 = ((n % 16 : Nat) : Int) := by
  have : ∀ n : Fin 256, bits .and .u8 (n.val : Int) 15 = ((n.val % 16 : Nat) : Int) := by decide
  exact this ⟨n, h⟩

set_option maxRecDepth 100000 in
set_option maxHeartbeats 4000000 in
theorem name_any (cp : Nat) (A : Option Addr) (bs : List (BitVec 8)) (w : World)
    (hb : Kd.C (Kd.int .u8) w A bs.length (bs.map byt)) (hc : bs.length ≤ cp) (hl : bs.length < 1000000000) :
    Calls Try.prog 11 #[.slice A bs.length cp] w fun e w' =>
      e = .returned (.string (name bs)) ∧ Below w.heap.size w w' := by
  have HC := Lib.hid hb
  clear hb
  go_enter Try.func11, Try.ntmps11
  go_wp2_with fail
  have hA : Below w.heap.size w (w.alloc (.cells #[.pointer none, .slice none 0 0] 50)) := (Below.refl _ _).alloc (Nat.le_refl _) _
  refine (sum_any cp A bs _ (Kd.C_below HC.out hA) hc hl).mono ?_
  rintro e w1 ⟨rfl, hB⟩
  have hbk : w1.heap[w.heap.size]? = some (.cells #[.pointer none, .slice none 0 0] 50 (0, 0)) := (hB.block _ (by simp)).trans (blk_new w _)
  have hI : Lib.IsBuilder 50 5 w.heap.size w.heap.size (Lib.byteCells (hexL ((sum bs).take 0))) w1 := Or.inl ⟨Nat.le_refl _, .slice none 0 0, hbk, ⟨by simp [hexL, Lib.byteCells], Or.inl ⟨rfl, by simp [hexL, Lib.byteCells]⟩⟩, by simp [Value.ownBlock]⟩
  have HI := Lib.hid hI
  have HB := Lib.hid (hA.trans (hB.mono (by simp)))
  clear hbk hI hA hB
  obtain ⟨S, hSe⟩ : ∃ S, S = sum bs := ⟨_, rfl⟩
  have hSl : S.length = 32 := by rw [hSe]; exact out_length _
  have HS := Lib.hid hSe
  rw [← hSe]
  clear hSe
  go_wp2_with fail
  go_loopw [8] (fun v wr => ∃ i : Nat, i ≤ 32 ∧ v = .int .i64 i ∧ Lib.IsBuilder 50 5 w.heap.size w.heap.size (Lib.byteCells (hexL (S.take i))) wr ∧ Below w.heap.size w wr) (fun v _ => 32 - (intOf v).toNat)
  case atStart => exact ⟨0, by omega, rfl, by have := HI.out; rw [← HS.out] at this; exact this, HB.out⟩
  case round =>
    obtain ⟨i, hi, rfl, hI, hB⟩ := hrel
    clear HI HB
    have HI := Lib.hid hI
    have HB := Lib.hid hB
    clear hI hB
    by_cases hi32 : i < 32
    · have d1 : decide ((i : Int) < 32) = true := decide_eq_true (by omega)
      have hi1 : (i : Int) < 32 := by omega
      go_wp2_with fail
      rw [index_agg S hSl i hi32]
      obtain ⟨c, hc0⟩ : ∃ c, c = S.getD i 0 := ⟨_, rfl⟩
      obtain ⟨n, hn⟩ : ∃ n : Nat, n = c.toNat := ⟨_, rfl⟩
      have hn256 : n < 256 := by rw [hn]; exact c.isLt
      rw [← hc0, show byt c = (n : Int) by rw [hn]; rfl]
      have HCC := Lib.hid hc0
      have HN := Lib.hid hn
      clear hc0 hn
      go_wp2_with fail
      refine (writeByte_any w.heap.size w.heap.size _ _ wr HI.out (by rw [Lib.byteCells_length, hexL_length, List.length_take]; omega) HB.out.size).mono ?_
      rintro e w2 ⟨rfl, hI2, hB2⟩
      rw [dig_at] at hI2
      have hn15 := and15 n hn256
      have HI2 := Lib.hid hI2
      have HB2 := Lib.hid hB2
      clear hI2 hB2
      go_wp2_with fail
      refine (writeByte_any w.heap.size w.heap.size _ _ w2 (Or.inr HI2.out) (by rw [List.length_append, Lib.byteCells_length, hexL_length, List.length_take]; simp; omega) (HB.out.trans HB2.out).size).mono ?_
      rintro e w3 ⟨rfl, hI3, hB3⟩
      rw [dig_at] at hI3
      have e : Lib.byteCells (hexL (S.take i)) ++ [.int .u8 ((dig (n / 16)).toNat : Int)] ++ [.int .u8 ((dig (n % 16)).toNat : Int)] = Lib.byteCells (hexL (S.take (i + 1))) := by
        rw [hexL_take S i (by omega), ← HCC.out, ← HN.out]
        simp [Lib.byteCells]
      rw [e] at hI3
      have HI3 := Lib.hid hI3
      have HB3 := Lib.hid hB3
      clear e hI3 hB3 hn15
      go_wp2_with fail
      exact ⟨⟨i + 1, by omega, by go_num, Or.inr HI3.out, (HB.out.trans HB2.out).trans HB3.out⟩, by simp [intOf]; omega⟩
    · obtain rfl : i = 32 := by omega
      go_wp2_with fail
      refine (Try.Builder_String_any w.heap.size w.heap.size (hexL (S.take 32)) wr HI.out HB.out.size).mono ?_
      rintro e w2 ⟨rfl, hB2⟩
      have HB2 := Lib.hid hB2
      clear hB2
      rw [List.take_of_length_le (by omega)]
      go_wp2_with fail
      go_ret
      exact ⟨by rw [name, HS.out]; rfl, HB.out.trans HB2.out⟩
end Go.Proofs.Ytbnkpfflfiehjaa
