/- Is a text a path: the reference's Right. -/
import Derived.Test.YtfiemgadoglhiaaDoorPathK
set_option linter.unusedVariables false
set_option linter.unusedSimpArgs false
namespace Go.Proofs.YtfiemgadoglhiaaDoor
open Go.RowKit

theorem mem_drop_at {L : List UInt8} {f : Nat} {b : UInt8} (h : b ∈ L.drop f) : ∃ j, f ≤ j ∧ L[j]? = some b := by
  obtain ⟨k, hk, rfl⟩ := List.getElem_of_mem h
  refine ⟨f + k, by omega, ?_⟩
  rw [List.length_drop] at hk
  rw [List.getElem_drop, List.getElem?_eq_getElem (by omega)]
theorem split_at (L : List UInt8) (f i : Nat) (hf : f ≤ i) (h : L[i]? = some 47) (hno : ∀ j, f ≤ j → j < i → L[j]? ≠ some 47) : splitS (L.drop f) = ((L.take i).drop f) :: splitS (L.drop (i + 1)) := by
  obtain ⟨hi, _⟩ := List.getElem?_eq_some_iff.1 h
  have e : L.drop f = (L.take i).drop f ++ 47 :: L.drop (i + 1) := by
    rw [show L.drop f = (L.take i ++ 47 :: L.drop (i + 1)).drop f from congrArg (List.drop f) (take_last L i h), List.drop_append_of_le_length (by rw [List.length_take]; omega)]
  rw [e, splitS_append, splitS_none]
  · rfl
  · intro b hb e
    subst e
    obtain ⟨j, hj, e⟩ := mem_drop_at hb
    have hji : j < i := by
      have := (List.getElem?_eq_some_iff.1 e).1
      rw [List.length_take] at this
      omega
    rw [List.getElem?_take_of_lt hji] at e
    exact hno j hj hji e
theorem split_end (L : List UInt8) (f : Nat) (hno : ∀ j, f ≤ j → L[j]? ≠ some 47) : splitS (L.drop f) = [L.drop f] := by
  apply splitS_none
  intro b hb e
  subst e
  obtain ⟨j, hj, e⟩ := mem_drop_at hb
  exact hno j hj e
/-- How far the reference's Right is: the parts that are done, where the next one begins. -/
def RSt (p : ByteArray) (f i n : Nat) : Prop :=
  (∃ done : List (List UInt8), done.all (partOk 16) = true ∧ done.length = n ∧ i ≤ p.size ∧ f ≤ i ∧ splitS (bl p) = done ++ splitS ((bl p).drop f) ∧ ∀ j (hj : j < p.size), f ≤ j → j < i → p[j]'hj ≠ 47) ∨
  (i = p.size + 1 ∧ f ≤ i ∧ (splitS (bl p)).all (partOk 16) = true ∧ (splitS (bl p)).length = n)
theorem bl_not {p : ByteArray} {f i : Nat} (h : ∀ j (hj : j < p.size), f ≤ j → j < i → p[j]'hj ≠ 47) : ∀ j, f ≤ j → j < i → (bl p)[j]? ≠ some 47 := by
  intro j h1 h2 e
  obtain ⟨hj, _⟩ := List.getElem?_eq_some_iff.1 e
  have hj' : j < p.size := hj
  rw [bl_get p j hj'] at e
  exact h j hj' h1 h2 (Option.some.inj e)
theorem splitS_len (p : ByteArray) : (splitS (bl p)).length ≤ p.size + 1 := by
  rw [splitS_count, ← bl_size]
  have := List.count_le_length (a := (47 : UInt8)) (l := bl p)
  omega
set_option maxRecDepth 100000 in
set_option maxHeartbeats 2000000 in
theorem rright (p : ByteArray) (w : World) (hs : p.size ≤ 140737488351232) :
    Calls Tryd.prog 15 #[.string p] w fun e w' => e = .returned (.bool (right 16 8 (bl p))) ∧ Below w.heap.size w w' := by
  obtain ⟨r, hr⟩ : ∃ r, r = right 16 8 (bl p) := ⟨_, rfl⟩
  rw [← hr]
  have HR := Lib.hid hr
  clear hr
  obtain ⟨m, hm⟩ : ∃ m, m = p.size := ⟨_, rfl⟩
  have HM := Lib.hid hm.symm
  have hmb : m ≤ 140737488351232 := by omega
  have hlen := Lib.hid (splitS_len p)
  go_enter Tryd.func15, Tryd.ntmps15
  go_wp2_with fail
  go_loopw [3, 4, 5] (fun vn vf vi wr => ∃ n f i : Nat, vn = .int .i64 (n : Int) ∧ vf = .int .i64 (f : Int) ∧ vi = .int .i64 (i : Int) ∧ i ≤ m + 1 ∧ n ≤ m + 1 ∧ RSt p f i n ∧ Below w.heap.size w wr) (fun _ _ vi _ => m + 1 - (intOf vi).toNat)
  case atStart => exact ⟨0, 0, 0, rfl, rfl, rfl, by omega, by omega, Or.inl ⟨[], rfl, rfl, Nat.zero_le _, Nat.le_refl _, rfl, fun j hj h1 h2 => absurd h2 (Nat.not_lt_zero _)⟩, Below.refl _ _⟩
  case round =>
    obtain ⟨n, f, i, rfl, rfl, rfl, hi, hn, hst, hB⟩ := hrel
    have HB := Lib.hid hB
    clear hB
    rcases hst with ⟨done, hok, hdn, him, hfi, hsp, hno⟩ | ⟨rfl, hfi, hok, hln⟩
    · have HST := Lib.hid (And.intro hok (And.intro hdn (And.intro hsp hno)))
      have hnb : done.length ≤ m + 1 := by omega
      clear hok hdn hsp hno
      have him1 : (i : Int) ≤ (p.size : Int) := by omega
      have hi0 : (0 : Int) ≤ (i : Int) := by omega
      have hf0 : (0 : Int) ≤ (f : Int) := by omega
      have hfi1 : (f : Int) ≤ (i : Int) := by omega
      have hpart : ∀ w, Calls Tryd.prog 23 #[.string (p.extract f i)] w fun e w' => e = .returned (.bool (partOk 16 (((bl p).take i).drop f))) ∧ Below w.heap.size w w' := by
        intro w
        have := rpart (p.extract f i) w (by rw [ByteArray.size_extract]; omega)
        rw [bl_extract] at this
        exact this
      have HP := Lib.hid hpart
      clear hpart
      by_cases hin : i < p.size
      · have hin1 : (i : Int) < (p.size : Int) := by omega
        by_cases h47 : p[i]'hin = 47
        · have h47' : (((p[i]'hin).toNat : Int) = 47) := (toNat47 _).2 h47
          have hs2 := split_at (bl p) f i hfi (by rw [bl_get p i hin, h47]) (bl_not HST.out.2.2.2)
          obtain ⟨q, hq⟩ : ∃ q, q = partOk 16 (((bl p).take i).drop f) := ⟨_, rfl⟩
          rw [← hq] at HP
          have HS := Lib.hid (And.intro hs2 hq)
          clear h47 hs2 hq
          go_wp2_with fail
          refine (HP.out wr).mono ?_
          rintro e w2 ⟨rfl, hB⟩
          have HB2 := Lib.hid (HB.out.trans (hB.mono HB.out.size))
          clear hB
          cases q with
          | false =>
            go_wp2_with fail
            go_ret
            refine ⟨?_, HB2.out⟩
            have e1 : (splitS (bl p)).all (partOk 16) = false := by
              rw [HST.out.2.2.1, HS.out.1, List.all_append, List.all_cons, ← HS.out.2]
              simp
            rw [HR.out]
            unfold right
            rw [e1]
            rfl
          | true =>
            have hn1 : n + 1 ≤ m + 1 := by
              have h1 := hlen.out
              rw [HST.out.2.2.1, HS.out.1, List.length_append, List.length_cons, HST.out.2.1] at h1
              omega
            go_wp2_with fail
            refine ⟨⟨n + 1, i + 1, i + 1, by go_num, by go_num, by go_num, by omega, by omega, Or.inl ⟨done ++ [((bl p).take i).drop f], ?_, ?_, by omega, Nat.le_refl _, ?_, fun j hj h1 h2 => by omega⟩, HB2.out⟩, by first | (simp [intOf]; done) | (simp [intOf]; omega)⟩
            · rw [List.all_append, HST.out.1, List.all_cons, ← HS.out.2]
              rfl
            · rw [List.length_append, HST.out.2.1]
              rfl
            · rw [HST.out.2.2.1, HS.out.1, List.append_assoc]
              rfl
        · have h47' : ¬ (((p[i]'hin).toNat : Int) = 47) := fun h => h47 ((toNat47 _).1 h)
          have H47 := Lib.hid h47
          clear h47
          go_wp2_with fail
          refine ⟨⟨n, f, i + 1, by first | rfl | go_num, by first | rfl | go_num, by go_num, by omega, by omega, Or.inl ⟨done, HST.out.1, HST.out.2.1, by omega, by omega, HST.out.2.2.1, fun j hj h1 h2 => ?_⟩, HB.out⟩, by first | (simp [intOf]; done) | (simp [intOf]; omega)⟩
          by_cases hji : j = i
          · subst hji
            exact H47.out
          · exact HST.out.2.2.2 j hj h1 (by omega)
      · have hie : i = p.size := by omega
        have hin1 : ¬ (i : Int) < (p.size : Int) := by omega
        have hs2 := split_end (bl p) f (fun j hj e => by
          obtain ⟨hj2, _⟩ := List.getElem?_eq_some_iff.1 e
          have hj3 : j < p.size := hj2
          exact bl_not HST.out.2.2.2 j hj (by omega) e)
        have htk : ((bl p).take i).drop f = (bl p).drop f := by rw [List.take_of_length_le (by rw [bl_size]; omega)]
        obtain ⟨q, hq⟩ : ∃ q, q = partOk 16 ((bl p).drop f) := ⟨_, rfl⟩
        rw [htk, ← hq] at HP
        have HS := Lib.hid (And.intro hs2 hq)
        have HIE := Lib.hid hie
        clear hs2 hq htk hie
        go_wp2_with fail
        refine (HP.out wr).mono ?_
        rintro e w2 ⟨rfl, hB⟩
        have HB2 := Lib.hid (HB.out.trans (hB.mono HB.out.size))
        clear hB
        cases q with
        | false =>
          go_wp2_with fail
          go_ret
          refine ⟨?_, HB2.out⟩
          have e1 : (splitS (bl p)).all (partOk 16) = false := by
            rw [HST.out.2.2.1, HS.out.1, List.all_append, List.all_cons, ← HS.out.2]
            simp
          rw [HR.out]
          unfold right
          rw [e1]
          rfl
        | true =>
          have hn1 : n + 1 ≤ m + 1 := by
            have h1 := hlen.out
            rw [HST.out.2.2.1, HS.out.1, List.length_append, HST.out.2.1] at h1
            simp at h1
            omega
          go_wp2_with fail
          refine ⟨⟨n + 1, i + 1, i + 1, by go_num, by go_num, by go_num, by omega, by omega, Or.inr ⟨by have := HIE.out; omega, Nat.le_refl _, ?_, ?_⟩, HB2.out⟩, by first | (simp [intOf]; done) | (simp [intOf]; omega)⟩
          · rw [HST.out.2.2.1, HS.out.1, List.all_append, HST.out.1, List.all_cons, ← HS.out.2]
            rfl
          · rw [HST.out.2.2.1, HS.out.1, List.length_append, HST.out.2.1]
            rfl
    · have HST := Lib.hid (And.intro hok hln)
      have hend : ¬ ((p.size + 1 : Nat) : Int) ≤ (p.size : Int) := by omega
      have hend2 : ¬ ((p.size : Int) + 1 ≤ (p.size : Int)) := by omega
      clear hok hln
      go_wp2_with fail
      go_ret
      refine ⟨?_, HB.out⟩
      rw [HR.out]
      unfold right
      rw [HST.out.1, HST.out.2, Bool.true_and]
      show Ending.returned (Value.bool _) = _
      congr 2
      rw [decide_eq_decide]
      omega
end Go.Proofs.YtfiemgadoglhiaaDoor
