/- Walks of chapter 05: the program's Split and Join. -/
import Derived.Test.YtmhpnidhokcaeaaDoorLinesW4
import Derived.Lib.SplitLaws
set_option linter.unusedVariables false
set_option linter.unusedSimpArgs false
namespace Go.Proofs.YtmhpnidhokcaeaaDoor
open Go Go.RowKit Go.Proofs.YtmhpnidhokcaeaaDoorW.PrintWords Go.Proofs.YtmhpnidhokcaeaaDoorW.PrintLast

theorem indexByte_first (r : List UInt8) : ∀ x : List UInt8, (10 : UInt8) ∉ x → Lib.indexByte (x ++ 10 :: r) 10 = (x.length : Int)
  | [], _ => by simp [Lib.indexByte]
  | b :: x, h => by
    have hb : (b == 10) = false := by
      rw [beq_eq_false_iff_ne]
      exact fun e => h (by simp [e])
    show Lib.indexByte (b :: (x ++ 10 :: r)) 10 = _
    unfold Lib.indexByte
    rw [hb, indexByte_first r x (fun hx => h (List.mem_cons_of_mem _ hx))]
    simp only [Bool.false_eq_true, if_false]
    rw [if_neg (by simp)]
    simp
theorem splitK_lines : ∀ (n : Nat) (l : List UInt8), l.length ≤ n → Lib.splitK [10] 0 (l.count 10) l = (linesOf (l ++ [10])).1 := by
  intro n
  induction n with
  | zero =>
    intro l hl
    obtain rfl : l = [] := List.eq_nil_of_length_eq_zero (by omega)
    rfl
  | succ n ih =>
    intro l hl
    by_cases h : (10 : UInt8) ∈ l
    · obtain ⟨x, r, rfl, hx⟩ := List.eq_append_cons_of_mem h
      have hc : (x ++ 10 :: r).count 10 = r.count 10 + 1 := by
        rw [List.count_append, List.count_eq_zero.2 hx]
        simp
      have hi : Lib.index (x ++ 10 :: r) [10] = (x.length : Int) := by rw [Lib.index_one, indexByte_first r x hx]
      rw [hc, Lib.splitK, hi, if_neg (by simp)]
      rw [List.length_append, List.length_cons] at hl
      rw [List.append_assoc, List.cons_append, linesOf_line x _ hx]
      congr 1
      · simp
      · rw [← ih r (by omega)]
        simp
    · rw [List.count_eq_zero.2 h, Lib.splitK]
      rw [show l ++ [10] = l ++ 10 :: [] from rfl, linesOf_line l _ h]
      rfl
/-- A text's lines, and whether it is made of lines. -/
def splitOf (s : ByteArray) : List ByteArray × Bool := if (linesOf (bl s)).2 = [] then ((linesOf (bl s)).1.map ba, true) else ([], false)
theorem linesOf_end (l : List UInt8) : (linesOf (l ++ [10])).2 = [] := by
  have h := linesOf_text (l ++ [10])
  have h2 := (linesOf_right (l ++ [10])).2
  cases hr : (linesOf (l ++ [10])).2.reverse with
  | nil => simpa using hr
  | cons b r =>
    have e : (linesOf (l ++ [10])).2 = r.reverse ++ [b] := by
      have := congrArg List.reverse hr
      simpa using this
    rw [e, ← List.append_assoc] at h
    have := List.append_inj' h rfl
    simp at this
    rw [e] at h2
    exact absurd (by simp [this.2]) h2
theorem linesOf_open (l : List UInt8) (h0 : l ≠ []) (h : (linesOf l).2 = []) : ∃ r, l = r ++ [10] := by
  have ht := linesOf_text l
  rw [h, List.append_nil] at ht
  cases hr : (linesOf l).1.reverse with
  | nil =>
    have e : (linesOf l).1 = [] := by simpa using hr
    rw [e] at ht
    exact absurd ht.symm h0
  | cons x r =>
    have e : (linesOf l).1 = r.reverse ++ [x] := by
      have := congrArg List.reverse hr
      simpa using this
    rw [e] at ht
    refine ⟨textOf r.reverse ++ x, ?_⟩
    rw [← ht]
    simp [textOf]
theorem suffix_10 (l : List UInt8) : Lib.hasSuffix l [10] = true ↔ ∃ r, l = r ++ [10] := by
  unfold Lib.hasSuffix
  rw [List.isSuffixOf_iff_suffix]
  exact ⟨fun ⟨r, h⟩ => ⟨r, h.symm⟩, fun ⟨r, h⟩ => ⟨r, h.symm⟩⟩
theorem split_all (r : List UInt8) : Lib.splitB ⟨#[10]⟩ 0 (Lib.countB (ba r) ⟨#[10]⟩) (ba r) = ((linesOf (r ++ [10])).1.map ba) := by
  have h := Lib.splitB_data ⟨#[10]⟩ 0 (Lib.countB (ba r) ⟨#[10]⟩) (ba r)
  rw [show Lib.countB (ba r) ⟨#[10]⟩ = r.count 10 from Lib.count_one 10 r] at h ⊢
  have h2 : Lib.splitK [10] 0 (r.count 10) r = (linesOf (r ++ [10])).1 := splitK_lines r.length r (Nat.le_refl _)
  have h3 := h.trans h2
  rw [← h3, List.map_map]
  rw [show (ba ∘ fun x : ByteArray => x.data.toList) = id from funext fun x => ba_bl x, List.map_id]
abbrev Cell0 (w : World) : Prop := ∃ m, w.cell? ⟨0, 0, none⟩ = some (.int .i64 m)
theorem Cell0.below {w w' : World} (h : Cell0 w) (hB : Below w.heap.size w w') : Cell0 w' := by
  obtain ⟨m, hm⟩ := h
  have hlt : 0 < w.heap.size := by
    rcases Nat.eq_zero_or_pos w.heap.size with h0 | h0
    · have : w.heap[0]? = none := Array.getElem?_eq_none (by omega)
      simp [World.cell?, this] at hm
    · exact h0
  exact ⟨m, (hB.cell (p := ⟨0, 0, none⟩) hlt).trans hm⟩
theorem new_row (w : World) (xs : List ByteArray) (hl : xs.length ≤ 1000000000) : Kd.string.R 9 (w.alloc (.cells (xs.map Value.string).toArray 9)) w.heap.size (fun _ => True) (.slice (some ⟨w.heap.size, 0, none⟩) xs.length xs.length) xs := by
  refine Kd.R_of_own (enc := Value.string) ?_ (fun _ _ => trivial)
  refine ⟨by simp [encs], .inr ⟨w.heap.size, xs.length, (xs.map Value.string).toArray, rfl, Nat.le_refl _, heap_alloc_new w _, Nat.le_refl _, by unfold maxLen; omega, by simp, ?_⟩⟩
  rw [Nat.mul_one, List.take_of_length_le (by simp)]
  rfl
set_option maxRecDepth 100000 in
theorem split_any (s : ByteArray) (w : World) (hm : Cell0 w) (hs : s.size ≤ 1000000000) :
    Calls Tryd.prog 13 #[.string s] w fun e w' => ∃ v, e = .returned (.tuple #[v, .bool (splitOf s).2]) ∧ Kd.string.R 9 w' w.heap.size (fun _ => True) v (splitOf s).1 ∧ Below w.heap.size w w' := by
  have HS := Lib.hid hs
  clear hs
  go_enter Tryd.func13, Tryd.ntmps13
  by_cases h0 : s.size = 0
  · have hem : s.toList.isEmpty = true := by
      rw [ByteArray.toList_eq, List.eq_nil_of_length_eq_zero (show s.data.toList.length = 0 from h0)]
      rfl
    have e0 : splitOf s = ([], true) := by
      unfold splitOf
      rw [show bl s = [] from List.eq_nil_of_length_eq_zero h0]
      rfl
    rw [e0]
    clear h0 e0
    go_wp2_with fail
    go_ret2
    exact ⟨_, rfl, Kd.R_nil _ _ _ _ _, Below.refl _ _⟩
  · have hem : s.toList.isEmpty = false := by
      rw [ByteArray.toList_eq]
      cases he : s.data.toList with
      | nil => exact absurd (congrArg List.length he) h0
      | cons b l => rfl
    have HN := Lib.hid (show bl s ≠ [] from fun e => h0 (congrArg List.length e))
    clear h0
    have hcut := Tryd.strings_CutSuffix s ⟨#[10]⟩ w (by have := HS.out; omega)
    rw [show (⟨#[10]⟩ : ByteArray).data.toList = [10] from rfl] at hcut
    by_cases hb : ∃ r, bl s = r ++ [10]
    · have hb1 : Lib.hasSuffix s.data.toList [10] = true := (suffix_10 (bl s)).2 hb
      obtain ⟨r, hr⟩ := hb
      have e1 : Lib.trimSuffix s.data.toList [10] = r := by
        unfold Lib.trimSuffix
        rw [if_pos hb1, show s.data.toList = r ++ [10] from hr]
        simp
      have e2 : splitOf s = ((linesOf (r ++ [10])).1.map ba, true) := by
        unfold splitOf
        rw [hr, if_pos (linesOf_end r)]
      have hrl : r.length + 1 ≤ 1000000000 := by
        have := congrArg List.length hr
        rw [bl_size] at this
        simp at this
        have := HS.out
        omega
      rw [hb1, e1] at hcut
      rw [e2]
      have HCUT := Lib.hid hcut
      have HRL := Lib.hid hrl
      obtain ⟨m, hm⟩ := hm
      have hsp := Tryd.strings_Split (ba r) ⟨#[10]⟩ m w (by show r.length < _; omega) hm (by decide)
      rw [split_all] at hsp
      have HSP := Lib.hid hsp
      clear hsp hcut hrl e2 e1 hb1 hr
      go_wp2_with fail
      refine HCUT.out.mono ?_
      rintro e w' ⟨rfl, hw⟩
      have hw2 := hw.symm
      clear hw
      subst hw2
      go_wp2_with fail
      refine HSP.out.mono ?_
      rintro e w1 ⟨rfl, hw1⟩
      have HW := Lib.hid hw1
      clear hw1
      go_wp2_with fail
      go_ret2
      have hcnt : Lib.countB (ba r) ⟨#[10]⟩ + 1 = ((linesOf (r ++ [10])).1.map ba).length := by
        rw [List.length_map, linesOf_count, show Lib.countB (ba r) ⟨#[10]⟩ = r.count 10 from Lib.count_one 10 r]
        simp
      refine ⟨_, rfl, ?_, ?_⟩
      · show Kd.string.R _ w1 _ _ (.slice (some ⟨w.heap.size, 0, none⟩) (Lib.countB (ba r) ⟨#[10]⟩ + 1) (Lib.countB (ba r) ⟨#[10]⟩ + 1)) _
        rw [hcnt, HW.out]
        refine new_row w _ ?_
        rw [List.length_map, linesOf_count]
        have h1 := List.count_le_length (a := (10 : UInt8)) (l := r ++ [10])
        rw [List.length_append] at h1
        have := HRL.out
        rw [List.length_singleton] at h1
        omega
      · rw [HW.out]
        exact (Below.refl _ w).alloc (Nat.le_refl _) _
    · have hb1 : Lib.hasSuffix s.data.toList [10] = false := by
        rw [Bool.eq_false_iff]
        exact fun h => hb ((suffix_10 (bl s)).1 h)
      have e2 : splitOf s = ([], false) := by
        unfold splitOf
        rw [if_neg (fun h => hb (linesOf_open (bl s) HN.out h))]
      rw [hb1] at hcut
      rw [e2]
      have HCUT := Lib.hid hcut
      clear hcut e2 hb1 hb
      go_wp2_with fail
      refine HCUT.out.mono ?_
      rintro e w' ⟨rfl, hw⟩
      have hw2 := hw.symm
      clear hw
      subst hw2
      go_wp2_with fail
      go_ret2
      exact ⟨_, rfl, Kd.R_nil _ _ _ _ _, Below.refl _ _⟩
/-- The text of lines. -/
def joinOf (xs : List ByteArray) : List UInt8 := textOf (xs.map bl)
theorem joinOf_snoc (xs : List ByteArray) (x : ByteArray) : Lib.byteCells (joinOf (xs ++ [x])) = Lib.byteCells (joinOf xs) ++ Lib.strCells x ++ [.int .u8 10] := by
  have e : joinOf (xs ++ [x]) = joinOf xs ++ bl x ++ [10] := by simp [joinOf, textOf]
  rw [e, Lib.byteCells_append, Lib.byteCells_append, Lib.strCells_eq]
  rfl
theorem joinOf_len (xs ys : List ByteArray) (x : ByteArray) : (joinOf xs).length + x.size + 1 ≤ (joinOf (xs ++ x :: ys)).length := by
  have e : joinOf (xs ++ x :: ys) = joinOf xs ++ (bl x ++ [10]) ++ joinOf ys := by simp [joinOf, textOf]
  rw [e, List.length_append, List.length_append, List.length_append, bl_size, List.length_singleton]
  omega
set_option maxRecDepth 100000 in
set_option maxHeartbeats 4000000 in
theorem join_any (A : Option Addr) (n c : Nat) (xs : List ByteArray) (hxn : xs.length = n) (w : World) (hA : Kd.string.C w A n xs) (hn : n ≤ 1000000000) (ht : (joinOf xs).length ≤ 100000000000) :
    Calls Tryd.prog 17 #[.slice A n c] w fun e w' => e = .returned (.string (ba (joinOf xs))) ∧ Below w.heap.size w w' := by
  have HA := Lib.hid hA
  have HXN := Lib.hid hxn
  have HT := Lib.hid ht
  clear hA hxn ht
  go_enter Tryd.func17, Tryd.ntmps17
  go_wp2_with fail
  go_loopw [8] (fun vi wr => ∃ i : Nat, i ≤ n ∧ vi = .int .i64 (i : Int) ∧ BIs w.heap.size w.heap.size (Lib.byteCells (joinOf (xs.take i))) wr ∧ Below w.heap.size w wr) (fun vi _ => n - (intOf vi).toNat)
  case atStart =>
    refine ⟨0, Nat.zero_le _, rfl, ?_, (Below.refl _ w).alloc (Nat.le_refl _) _⟩
    exact Lib.IsBuilderF.of (.inl ⟨Nat.le_refl _, _, heap_alloc_new w _, World.ownsRow_nil _ _ _ _, by simp [Value.ownBlock]⟩)
  case round =>
    obtain ⟨i, hi, rfl, hb, hB⟩ := hrel
    have HB := Lib.hid (And.intro hb hB)
    clear hb hB
    by_cases hin : i < n
    · have hin1 : (i : Int) < (n : Int) := by omega
      have hi0 : (0 : Int) ≤ (i : Int) := by omega
      have hxi : i < xs.length := by rw [HXN.out]; exact hin
      obtain ⟨ad, rfl, ca1⟩ := Kd.at_string (Kd.C_below HA.out HB.out.2) (i : Int) hi0 hin1
      rw [rdOf_nat _ _ _ hxi, Int.toNat_natCast] at ca1
      have hlen := joinOf_len (xs.take i) (xs.drop (i + 1)) (xs[i]'hxi)
      rw [← List.drop_eq_getElem_cons hxi, List.take_append_drop] at hlen
      have hsn := joinOf_snoc (xs.take i) (xs[i]'hxi)
      rw [List.take_append_getElem] at hsn
      obtain ⟨x, hx⟩ : ∃ x, x = xs[i]'hxi := ⟨_, rfl⟩
      rw [← hx] at ca1 hlen hsn
      have HSN := Lib.hid hsn
      have HL := Lib.hid hlen
      clear hx hsn hlen hxi
      go_wp2_with fail
      refine (writeString_k w.heap.size w.heap.size _ x wr HB.out.1 (by rw [Lib.byteCells_length]; have := HT.out; have := HL.out; omega) HB.out.2.size).mono ?_
      rintro e w1 ⟨rfl, k1, k2, k3⟩
      have K1 := Lib.hid (And.intro k1 k2)
      clear k1 k2 k3
      go_wp2_with fail
      refine (writeByte_k w.heap.size w.heap.size _ 10 w1 (.inr K1.out.1) (by rw [List.length_append, Lib.byteCells_length, Lib.strCells_length]; have := HT.out; have := HL.out; omega) (by have := HB.out.2.size; have := K1.out.2.size; omega)).mono ?_
      rintro e w2 ⟨rfl, k1, k2, k3⟩
      have K2 := Lib.hid (And.intro k1 k2)
      clear k1 k2 k3
      go_wp2_with fail
      refine ⟨⟨i + 1, by omega, by go_num, ?_, HB.out.2.trans (K1.out.2.trans K2.out.2)⟩, by first | (simp [intOf]; done) | (simp [intOf]; omega)⟩
      rw [HSN.out]
      exact .inr K2.out.1
    · have hin1 : ¬ (i : Int) < (n : Int) := by omega
      have HIN := Lib.hid (show xs.take i = xs from List.take_of_length_le (by rw [HXN.out]; omega))
      go_wp2_with fail
      refine (Tryd.Builder_String_any_k w.heap.size w.heap.size (joinOf xs) wr (by have h := HB.out.1; rw [HIN.out] at h; exact h) HB.out.2.size).mono ?_
      rintro e w1 ⟨rfl, k1, k2, k3⟩
      have K2 := Lib.hid k2
      clear k1 k2 k3
      go_wp2_with fail
      go_ret
      exact ⟨rfl, HB.out.2.trans K2.out⟩
end Go.Proofs.YtmhpnidhokcaeaaDoor
