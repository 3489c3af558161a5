/- Patches' bytes: numbers, texts and lists are written. -/
import Derived.Test.YtijfedahhgcfpaaDoorNamB
import Derived.Test.YtijfedahhgcfpaaDoorNf
import Derived.Test.YtijfedahhgcfpaaDoorShelf
import Derived.WalkKit
import Derived.Lib.AppendIntMem
import Derived.Lib.ItoaLen
import Derived.Test.YtijfedahhgcfpaaDoorFrame
set_option linter.unusedVariables false
set_option linter.unusedSimpArgs false
namespace Go.Proofs.YtijfedahhgcfpaaDoor
open Go.RowKit Go.Proofs.YtijfedahhgcfpaaDoorW.PrintWords Go.Proofs.YtijfedahhgcfpaaDoorW.PrintLast

/-- What a row's first world gives of the library's own variables. -/
structure Ground (w : World) : Prop where
  cut : ∃ m, w.cell? ⟨0, 0, none⟩ = some (.int .i64 m)
  tab : Lib.TabIs Tryd.prog w "internal/strconv.uint64pow10" .u64 Lib.pow10Tab
theorem cell_ltG {w : World} {k : Nat} {v : Value} (h : w.cell? ⟨k, 0, none⟩ = some v) : k < w.heap.size := by
  rcases Nat.lt_or_ge k w.heap.size with h0 | h0
  · exact h0
  · have : w.heap[k]? = none := Array.getElem?_eq_none h0
    simp [World.cell?, this] at h
theorem Ground.below {w w' : World} (h : Ground w) (hB : Below w.heap.size w w') : Ground w' := by
  obtain ⟨⟨m, h0⟩, h3⟩ := h
  exact ⟨⟨m, (hB.cell (p := ⟨0, 0, none⟩) (cell_ltG h0)).trans h0⟩, Lib.tabBelow_of_tabIs h3 w' hB⟩
theorem bis_grown {B b : Nat} {bs : List Value} {w w' : World} {r : Option Nat} (h : BIs B b bs w) (hg : w.grownBy w' r) (hb : r ≠ some b) (hr : ∀ k o, r = some k → w.heap[k]? = some o → ∀ c fz, o ≠ .cells c 5 fz) : BIs B b bs w' := by
  have one : ∀ p, BAt B b p bs w → BAt B b p bs w' := by
    rintro p ⟨h1, v, h2, h3, h4⟩
    refine ⟨h1, v, (hg.block b (blk_lt h2) (fun e => hb e.symm)).trans h2, h3.kept hg ?_, h4⟩
    rcases h3.2 with ⟨rfl, _⟩ | ⟨g, cap, cur, fz, rfl, hbg, hgb, _⟩
    · exact .inl rfl
    · refine .inr fun e => ?_
      have e' : r = some g := by simpa [Value.ownBlock] using e.symm
      exact hr g _ e' hgb _ _ rfl
  exact h.imp (one _) (one _)
theorem bis_below {B b : Nat} {bs : List Value} {w w' : World} (h : BIs B b bs w) (hB : Below w.heap.size w w') : BIs B b bs w' :=
  bis_grown h (gb_below hB none) (by simp) (fun k o e => by cases e)
theorem bkept_below {b : Nat} {w w' : World} (hB : Below w.heap.size w w') : BKept b w w' := fun k o hk _ _ => (hB.block k (blk_lt hk)).trans hk
theorem itoaN_any (n : Int) (hn : numOk n) (w : World) (hG : Ground w) : Calls Tryd.prog 37 #[.int .i64 n] w fun e w' => e = .returned (.string (baN (Lib.itoa n))) ∧ Below w.heap.size w w' := by
  refine (Tryd.strconv_Itoa n (by have := hn.1; omega) (by have := hn.2; omega) w hG.tab).mono ?_
  rintro e w' ⟨rfl, k, os, rfl⟩
  exact ⟨rfl, Lib.below_grow _ w (Nat.le_refl _) k os⟩
theorem strCells_baN (l : List UInt8) : Lib.strCells (baN l) = Lib.byteCells l := Lib.strCells_eq _
/-- The writer while it writes. -/
structure Wr (B b : Nat) (l : List UInt8) (w0 w : World) : Prop where
  bld : BIs B b (Lib.byteCells l) w
  bel : Below B w0 w
  kept : BKept b w0 w
  sz : B ≤ w0.heap.size
theorem Wr.step {B b : Nat} {l : List UInt8} {w0 w w' : World} (h : Wr B b l w0 w) (hB : Below w.heap.size w w') : Wr B b l w0 w' :=
  ⟨bis_below h.bld hB, h.bel.trans (hB.mono (Nat.le_trans h.sz h.bel.size)), h.kept.trans (bkept_below hB), h.sz⟩
theorem Wr.on {B b : Nat} {l l' : List UInt8} {w0 w w' : World} (h : Wr B b l w0 w) (h' : Wr B b l' w w') : Wr B b l' w0 w' :=
  ⟨h'.bld, h.bel.trans h'.bel, h.kept.trans h'.kept, h.sz⟩
theorem Wr.here {B b : Nat} {l : List UInt8} {w : World} (h : BIs B b (Lib.byteCells l) w) (hs : B ≤ w.heap.size) : Wr B b l w w := ⟨h, Below.refl _ _, Lib.OthersKept.refl _ _ _, hs⟩
/-- A block that is neither the writer nor bytes stays. -/
theorem Wr.blk {B b : Nat} {l : List UInt8} {w0 w : World} (h : Wr B b l w0 w) {k : Nat} {o : Obj} (hk : w0.heap[k]? = some o) (hb : k ≠ b) (ho : ∀ c fz, o ≠ .cells c 5 fz) : w.heap[k]? = some o :=
  h.kept k o hk (fun e => hb (by simpa using e)) ho
theorem Ground.wr {B b : Nat} {l : List UInt8} {w0 w : World} (h : Ground w0) (hw : Wr B b l w0 w) (hB : ∃ wb, Ground wb ∧ wb.heap.size ≤ B ∧ Below B wb w0) : Ground w := by
  obtain ⟨wb, g, e, hb⟩ := hB
  exact g.below ((hb.trans hw.bel).mono e)
set_option maxRecDepth 100000 in
set_option maxHeartbeats 4000000 in
theorem number_any (B b : Nat) (l : List UInt8) (n : Int) (w : World) (h : BIs B b (Lib.byteCells l) w) (hn : numOk n) (hl : l.length ≤ 100000000000) (hBw : B ≤ w.heap.size) (hG : Ground w) :
    Calls Tryd.prog 19 #[.pointer (some ⟨b, 0, none⟩), .int .i64 n] w fun e w' => e = .returned (.tuple #[]) ∧ Wr B b (l ++ numI n) w w' := by
  have HG := Lib.hid hG
  have HN := Lib.hid hn
  have HL := Lib.hid (And.intro hl hBw)
  have HH := Lib.hid (Wr.here h hBw)
  have hnum : numI n = Lib.itoa n ++ [58] := rfl
  have hlen := Lib.itoa_length_le n (by have := hn.1; omega) (by have := hn.2; omega)
  have HNUM := Lib.hid (And.intro hnum hlen)
  clear hG hn hl hBw h hnum hlen
  go_enter Tryd.func19, Tryd.ntmps19
  go_upto_region 0 with (fail)
  refine start_ (S := fun w' => Wr B b l w w') (ds := [5]) (n := 6) #[false, false, false, false, false, false] rfl rfl rfl ?hS0 (fun hHeld => ?hrun)
  case hS0 => exact HH.out.step (Below.refl _ _).drew
  case hrun =>
    refine pure_ (i := 0) (N := some 4) (v := ?_) (a' := ?_) #[true, false, false, false, false, false] rfl rfl (by kernel_rfl) (fun _ _ _ h => h) (Or.inl ⟨by rfl, ?_⟩) ?_ ?_
    rotate_left
    · intro w'
      go_simp
      first | done | with_reducible rfl
    rotate_left
    · simp only [Act.put, List.setIfInBounds_toArray, List.set_cons_zero, List.set_cons_succ, i64_w, i32_w]
      rfl
    refine pure_ (i := 1) (N := some 5) (v := ?_) (a' := ?_) #[true, true, false, false, false, false] rfl rfl (by kernel_rfl) (fun _ _ _ h => h) (Or.inl ⟨by rfl, ?_⟩) ?_ ?_
    rotate_left
    · intro w'
      go_simp
      first | done | with_reducible rfl
    rotate_left
    · simp only [Act.put, List.setIfInBounds_toArray, List.set_cons_zero, List.set_cons_succ, i64_w, i32_w]
      rfl
    refine pure_ (i := 2) (N := some 6) (v := ?_) (a' := ?_) #[true, true, true, false, false, false] rfl rfl (by kernel_rfl) (fun _ _ _ h => h) (Or.inl ⟨by rfl, ?_⟩) ?_ ?_
    rotate_left
    · intro w'
      go_simp
      first | done | with_reducible rfl
    rotate_left
    · simp only [Act.put, List.setIfInBounds_toArray, List.set_cons_zero, List.set_cons_succ, i64_w, i32_w]
      rfl
    refine pure_ (i := 3) (N := some 7) (v := ?_) (a' := ?_) #[true, true, true, true, false, false] rfl rfl (by kernel_rfl) (fun _ _ _ h => h) (Or.inl ⟨by rfl, ?_⟩) ?_ ?_
    rotate_left
    · intro w'
      go_simp
      first | done | with_reducible rfl
    rotate_left
    · simp only [Act.put, List.setIfInBounds_toArray, List.set_cons_zero, List.set_cons_succ, i64_w, i32_w]
      rfl
    refine one_ (i := 4) (N := some 8) #[true, true, true, true, true, false] rfl rfl (by kernel_rfl) (by decide) (fun K hK => ?_)
    refine goes_ Tryd.func37 (by kernel_rfl) rfl #[.int .i64 n] (by rfl) rfl rfl (by (try simp only [List.map_toArray, List.map_cons, List.map_nil]); first | done | rfl) ?_
    refine (itoaN_any n HN.out w.drew (HG.out.below (Below.refl _ _).drew)).mono ?_
    rintro r w1 ⟨rfl, hB1⟩
    have HS1 := Lib.hid (HH.out.step ((Below.refl _ _).drew.trans hB1))
    clear hB1 hHeld
    refine ⟨_, rfl, ?_⟩
    refine hK.out _ _ HS1.out (fun hHeld1 => ?_)
    clear hK K
    refine norm_ (a' := ?_) ?_ ?_
    rotate_left
    · show Act.put _ (some 8) _ = _
      simp only [Act.put, List.setIfInBounds_toArray, List.set_cons_zero, List.set_cons_succ, i64_w, i32_w]
      rfl
    refine tail_list 5 (t := [5]) (fuel := 0) rfl rfl rfl (by kernel_rfl) (by decide) ?_
    go_wp2_with fail
    refine (writeString_k B b _ _ w1 HS1.out.bld (by rw [Lib.byteCells_length, baN_size]; have := HL.out.1; have := HNUM.out.2; omega) (by have := HL.out.2; have := HS1.out.bel.size; omega)).mono ?_
    rintro e w2 ⟨rfl, k1, k2, k3⟩
    rw [strCells_baN, ← Lib.byteCells_append] at k1
    have HS2 := Lib.hid (HS1.out.on ⟨.inr k1, k2, k3, Nat.le_trans HL.out.2 HS1.out.bel.size⟩)
    clear k1 k2 k3
    go_wp2_with fail
    refine (writeByte_k B b _ 58 w2 HS2.out.bld (by rw [Lib.byteCells_length, List.length_append]; have := HL.out.1; have := HNUM.out.2; omega) (by have := HL.out.2; have := HS2.out.bel.size; omega)).mono ?_
    rintro e w3 ⟨rfl, k1, k2, k3⟩
    rw [show Lib.byteCells (l ++ Lib.itoa n) ++ [Value.int .u8 58] = Lib.byteCells (l ++ numI n) by rw [HNUM.out.1, ← List.append_assoc, Lib.byteCells_append (l ++ Lib.itoa n)]; rfl] at k1
    have HS3 := Lib.hid (HS2.out.on ⟨.inr k1, k2, k3, Nat.le_trans HL.out.2 HS2.out.bel.size⟩)
    clear k1 k2 k3
    go_wp2_with fail
    exact bodyPost_end (results_none rfl _ _ _) rfl ⟨rfl, HS3.out⟩
end Go.Proofs.YtijfedahhgcfpaaDoor
