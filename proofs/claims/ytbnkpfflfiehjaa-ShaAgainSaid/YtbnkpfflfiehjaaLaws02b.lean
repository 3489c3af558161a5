/- ShaLong's contract: of a byte, as often as is said. -/
import Derived.Test.YtbnkpfflfiehjaaLaws02
import Derived.Laws.MakeOwn
set_option linter.unusedVariables false
set_option linter.unusedSimpArgs false
namespace Go.Proofs.Ytbnkpfflfiehjaa
open Go.RowKit Go.Proofs.YtbnkpfflfiehjaaW.PrintWords Go.Proofs.YtbnkpfflfiehjaaW.PrintLast

theorem made_bytes (m : Nat) : madeCells #[.int .u8 0] (m * 1) = bcells (List.replicate m 0#8) := by
  apply Array.ext
  · simp [madeCells, bcells]
  · intro i h1 h2
    simp [madeCells, bcells, byt, Nat.mod_one]
theorem sum_n (n cp : Nat) (A : Option Addr) (bs : List (BitVec 8)) (w : World) (hn : n = bs.length)
    (hb : Kd.C (Kd.int .u8) w A n (bs.map byt)) (hc : n ≤ cp) (hl : n < 1000000000) :
    Calls Try.prog 9 #[.slice A n cp] w fun e w' => e = .returned (.agg (bcells (sum bs))) ∧ Below w.heap.size w w' := by
  subst hn
  exact sum_any cp A bs w hb hc hl
theorem sum_ref_n (n cp : Nat) (A : Option Addr) (bs : List (BitVec 8)) (w : World) (hn : n = bs.length)
    (hb : Kd.C (Kd.int .u8) w A n (bs.map byt)) (hc : n ≤ cp) (hl : n < 1000000000) :
    Calls Try.prog 10 #[.slice A n cp] w fun e w' => e = .returned (.agg (bcells (sum bs))) ∧ Below w.heap.size w w' := by
  subst hn
  exact sum_ref cp A bs w hb hc hl
theorem byte_of (x : Int) (h : (Lit.int .u8 x).wf = true) : ∃ b : BitVec 8, x = byt b := by
  obtain ⟨bs, hb⟩ := bytes_of [x] (by simpa using h)
  match bs, hb with
  | [b], hb => exact ⟨b, by simpa using hb⟩
theorem set_rep (m i : Nat) (c : BitVec 8) (h : i < m) : (List.replicate i c ++ List.replicate (m - i) 0#8).set i c = List.replicate (i + 1) c ++ List.replicate (m - (i + 1)) 0#8 := by
  rw [show (List.replicate i c ++ List.replicate (m - i) 0#8).set i c = (List.replicate i c ++ List.replicate (m - i) 0#8).set ((List.replicate i c).length + 0) c by simp, List.set_append_right _ _ (by omega), Nat.add_sub_cancel_left, show m - i = (m - (i + 1)) + 1 by omega, List.replicate_succ, List.set_cons_zero, List.replicate_succ', List.append_assoc]
  rfl

set_option maxRecDepth 100000 in
set_option maxHeartbeats 4000000 in
theorem long_law (w : World) (ci : Int) (wc : (Lit.int .u8 ci).wf = true) (ni : Int) (wn : (Lit.int .u16 ni).wf = true) :
    Calls Try.prog 4 #[.int .u8 ci, .int .u16 ni] w fun e w' => e = .returned (.bool true) ∧ Below w.heap.size w w' := by
  obtain ⟨c, rfl⟩ := byte_of ci wc
  obtain ⟨n, rfl, hn⟩ : ∃ n : Nat, ni = (n : Int) ∧ n < 65536 := by
    have hw : 0 ≤ ni ∧ ni < 65536 := by
      simp [Lit.wf, IntKind.min, IntKind.max, IntKind.bits, IntKind.signed] at wn
      omega
    exact ⟨ni.toNat, by omega, by omega⟩
  obtain ⟨m, hm4, hme⟩ : ∃ m : Nat, m < 400 ∧ m = n % 400 := ⟨_, Nat.mod_lt _ (by decide), rfl⟩
  have HM := Lib.hid (show Int.tmod (n : Int) 400 = (m : Int) by rw [hme]; rfl)
  have HM2 := Lib.hid (show (n : Int) % 400 = (m : Int) by rw [hme]; rfl)
  clear hme wc wn
  go_enter Try.func4, Try.ntmps4
  go_wp2_with fail
  refine (head_any w).mono ?_
  rintro e w1 ⟨rfl, hB⟩
  have HB := Lib.hid hB
  clear hB
  go_wp2_with fail
  obtain ⟨i0, hi0, hz0, hz1, hz2⟩ := info_parts infoU8
  have hmk := run_make (P := Try.prog) w1 22 5 i0 (.int .u8 0) (by rfl) hi0 hz0 .i64 .i64 (m : Int) (m : Int) (by omega) (Int.le_refl _) (by rw [hz2]; omega) (by omega)
  rw [hz1, Int.toNat_natCast, show (Value.int IntKind.u8 0).cells = #[.int .u8 0] from rfl, made_bytes] at hmk
  rw [HM2.out, hmk]
  have hA : Below w1.heap.size w1 (w1.alloc (.cells (bcells (List.replicate m 0#8)) 5)) := (Below.refl _ _).alloc (Nat.le_refl _) _
  have HL := Lib.hid (show BAt (w1.alloc (.cells (bcells (List.replicate m 0#8)) 5)) w1.heap.size 5 (List.replicate m 0#8) from blk_new w1 _)
  have HA := Lib.hid (HB.out.trans (hA.mono HB.out.size))
  have hsz := HB.out.size
  clear hmk hz0 hz1 hz2 hi0 hA HM HM2
  simp only [Result.andThen]
  rw [Oper.upon_value]
  go_wp2_with fail
  generalize hlb : w1.heap.size = lb at *
  clear hlb
  go_loopw [7] (fun v wr => ∃ i : Nat, i ≤ m ∧ v = .int .i64 i ∧ BAt wr lb 5 (List.replicate i c ++ List.replicate (m - i) 0#8) ∧ Below w.heap.size w wr) (fun v _ => 400 - (intOf v).toNat)
  case atStart => exact ⟨0, by omega, rfl, by simpa using HL.out, HA.out⟩
  case round =>
    obtain ⟨i, hi, rfl, hL, hB⟩ := hrel
    clear HL HA
    by_cases him : i < m
    · have d1 : (i : Int) < (m : Int) := by omega
      obtain ⟨g0, g1⟩ := hL.get i (by simp; omega)
      have g2 := hL.lt
      have HL := Lib.hid hL
      have HB2 := Lib.hid hB
      clear hL hB
      go_wp2_with fail
      refine ⟨⟨i + 1, by omega, by go_num, ?_, HB2.out.setCell (p := ⟨lb, i, none⟩) hsz _⟩, by simp [intOf]; omega⟩
      have := HL.out.put i c
      rw [set_rep m i c him] at this
      exact this
    · obtain rfl : i = m := by omega
      rw [Nat.sub_self, List.replicate_zero, List.append_nil] at hL
      have hC := hL.C 0 i (by simp) (by omega)
      rw [List.drop_zero, List.take_of_length_le (by simp)] at hC
      have HC := Lib.hid hC
      have HB2 := Lib.hid hB
      have hir : i = (List.replicate i c).length := by simp
      have HIR := Lib.hid hir
      clear hL hB hC hir
      go_wp2_with fail
      refine (sum_n i i (some ⟨lb, 0, none⟩) (List.replicate i c) wr HIR.out HC.out (Nat.le_refl _) (by omega)).mono ?_
      rintro e w3 ⟨rfl, hB⟩
      have HB3 := Lib.hid hB
      clear hB
      go_wp2_with fail
      refine (sum_ref_n i i (some ⟨lb, 0, none⟩) (List.replicate i c) w3 HIR.out (Kd.C_below HC.out HB3.out) (Nat.le_refl _) (by omega)).mono ?_
      rintro e w4 ⟨rfl, hB⟩
      have HB4 := Lib.hid hB
      clear hB
      go_wp2_with fail
      rw [eq_sums (sum (List.replicate i c)) (sum (List.replicate i c)) (out_length _) (out_length _), decide_eq_true rfl]
      simp only [Result.andThen]
      rw [Oper.upon_value]
      go_wp2_with fail
      go_ret
      exact ⟨rfl, below_then (below_then HB2.out HB2.out.size HB3.out) (below_then HB2.out HB2.out.size HB3.out).size HB4.out⟩
end Go.Proofs.Ytbnkpfflfiehjaa
