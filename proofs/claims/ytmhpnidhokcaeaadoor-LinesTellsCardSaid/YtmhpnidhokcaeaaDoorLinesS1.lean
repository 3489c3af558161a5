/- The iterator of a line's pieces: its contract. -/
import Derived.Test.YtmhpnidhokcaeaaDoorSeqB
import Derived.Test.YtmhpnidhokcaeaaDoorLinesW1
import Derived.RangeFuncNested
import Derived.RangeFuncBound
import Derived.RangeFuncCalls
import Derived.RangeFuncLeaves
import Derived.Shelf.Abstract
import Derived.Shelf.RegionOpen
import Derived.WalkKit
import Derived.OwnWalkIn
import Derived.TacticsInMore
import Derived.LoopNIn
import Derived.LoopIn
import Derived.Lib.Hide
set_option linter.unusedVariables false
set_option linter.unusedSimpArgs false
namespace Go.Proofs.YtmhpnidhokcaeaaDoor
open Go Go.RowKit Go.Shelf
attribute [local go_sem] Oper.semAt_some

theorem pieces_head (b : UInt8) (l : List UInt8) (y : List UInt8) (s : Bool) (h : (pieces (b :: l)).head? = some (y, s)) : s = inB b := by
  unfold pieces at h
  cases hp : pieces l with
  | nil =>
    rw [hp] at h
    exact (Prod.mk.inj (Option.some.inj h)).2.symm
  | cons p r =>
    obtain ⟨x, t⟩ := p
    rw [hp] at h
    by_cases e : inB b = t
    · simp only [if_pos e] at h
      rw [e]
      exact (Prod.mk.inj (Option.some.inj h)).2.symm
    · simp only [if_neg e] at h
      exact (Prod.mk.inj (Option.some.inj h)).2.symm
theorem pieces_first (l : List UInt8) (n : Nat) (t : Bool) (h1 : 1 ≤ n) (h2 : n ≤ l.length) (ha : ∀ b ∈ l.take n, inB b = t) (he : ∀ b, l[n]? = some b → inB b ≠ t) : pieces l = (l.take n, t) :: pieces (l.drop n) := by
  have hf := (pieces_alt (l.drop n)).2
  have := pieces_run (l.take n) t (pieces (l.drop n)) (by
    intro e
    have := congrArg List.length e
    rw [List.length_take, List.length_nil] at this
    omega) ha (by
    intro y s hy
    cases hd : l.drop n with
    | nil =>
      rw [hd] at hy
      cases hy
    | cons b r =>
      rw [hd] at hy
      rw [pieces_head b r y s hy]
      apply he
      have h3 : (l.drop n)[0]? = some b := by rw [hd]; rfl
      rw [List.getElem?_drop, Nat.add_zero] at h3
      exact h3) (by rw [hf])
  rw [hf, List.take_append_drop] at this
  exact this
def piecesB (s : ByteArray) : List (ByteArray × Bool) := (pieces s.data.toList).map fun p => (⟨p.1.toArray⟩, p.2)
theorem piecesB_nil (s : ByteArray) (h : s.size = 0) : piecesB s = [] := by
  have : s.data.toList = [] := List.eq_nil_of_length_eq_zero h
  unfold piecesB
  rw [this]
  rfl
theorem piecesB_first (s : ByteArray) (n : Nat) (t : Bool) (h1 : 1 ≤ n) (h2 : n ≤ s.size) (ha : ∀ j (hj : j < s.size), j < n → inB (s[j]'hj) = t) (he : ∀ hj : n < s.size, inB (s[n]'hj) ≠ t) : piecesB s = (s.extract 0 n, t) :: piecesB (s.extract n s.size) := by
  obtain ⟨⟨l⟩⟩ := s
  have ha' : ∀ j (hj : j < l.length), j < n → inB (l[j]'hj) = t := ha
  have he' : ∀ hj : n < l.length, inB (l[n]'hj) ≠ t := he
  have h2' : n ≤ l.length := h2
  have := pieces_first l n t h1 h2' (by
    intro b hb
    obtain ⟨j, hj, rfl⟩ := List.getElem_of_mem hb
    rw [List.length_take] at hj
    rw [List.getElem_take]
    exact ha' j (by omega) (by omega)) (by
    intro b hb
    obtain ⟨hj, rfl⟩ := List.getElem?_eq_some_iff.1 hb
    exact he' hj)
  have e1 : ((⟨l.toArray⟩ : ByteArray).extract 0 n) = ⟨(l.take n).toArray⟩ := by
    apply ByteArray.ext
    rw [ByteArray.data_extract]
    simp
  have e2 : ((⟨l.toArray⟩ : ByteArray).extract n (⟨l.toArray⟩ : ByteArray).size).data.toList = l.drop n := by
    rw [ByteArray.data_extract, Array.toList_extract, List.extract_eq_take_drop]
    show (l.drop n).take (l.length - n) = l.drop n
    rw [List.take_of_length_le (by rw [List.length_drop]; omega)]
  unfold piecesB
  rw [e2, e1]
  show (pieces l).map _ = _
  rw [this]
  rfl
def cellLen (p : Addr) (w : World) : Nat := match w.cell? p with
  | some (.string r) => r.size
  | _ => 0
set_option maxRecDepth 100000 in
set_option maxHeartbeats 4000000 in
theorem pieces_seq (n : Nat) (hn : 2 ≤ n) (s : ByteArray) (bs : Nat) (W : World) (hs : s.size ≤ 140737488351232) (hc : W.cell? ⟨bs, 0, none⟩ = some (.string s)) (hf : W.frozen? ⟨bs, 0, none⟩ = false) :
    SeqCell n Tryd.prog 35 #[.pointer (some ⟨bs, 0, none⟩)] (fun x : ByteArray × Bool => #[.string x.1, .bool x.2]) (fun _ => True) ⟨bs, 0, none⟩ (piecesB s) W := by
  intro l J Jx hK hJc hY A hJ0 hAc hAf
  rw [hc] at hAc
  rw [hf] at hAf
  clear hc hf hK
  refine callsIn_of_wp Tryd.func35 rfl trivial ?_ rfl
  simp only [Tryd.ntmps35, List.size_toArray, List.length_cons, List.length_nil, Nat.reduceAdd, Nat.reduceSub, Array.replicate_succ, Array.replicate_zero, List.push_toArray, List.append_toArray, List.nil_append, List.cons_append]
  gi_wp2
  gi_loopw [] (fun wr => ∃ (pre : List (ByteArray × Bool)) (rest : ByteArray), piecesB s = pre ++ piecesB rest ∧ J pre wr ∧ wr.cell? ⟨bs, 0, none⟩ = some (.string rest) ∧ wr.frozen? ⟨bs, 0, none⟩ = false ∧ rest.size ≤ 140737488351232) (fun wr => cellLen ⟨bs, 0, none⟩ wr)
  case atStart => exact ⟨[], s, rfl, hJ0, hAc, hAf, hs⟩
  case round =>
    clear hAc hAf hJ0 hs
    obtain ⟨pre, rest, hsp, hJ, hcell, hfr, hsz⟩ := hrel
    have HSP := Lib.hid hsp
    have HJ := Lib.hid hJ
    have HJC := Lib.hid hJc
    clear hsp hJc
    by_cases h0 : rest.size = 0
    · have HN := Lib.hid (piecesB_nil rest h0)
      have hl0 : rest.toList = [] := by
        rw [ByteArray.toList_eq]
        exact List.eq_nil_of_length_eq_zero h0
      have hem : rest.toList.isEmpty = true := by rw [hl0]; rfl
      clear h0
      gi_wp2_with fail
      go_end0
      refine ⟨⟨_, rfl⟩, .inl ?_⟩
      rw [HSP.out, HN.out, List.append_nil]
      exact hJ
    · have hp0 : 0 < rest.size := by omega
      have hl0 : ¬ rest.toList = [] := by
        rw [ByteArray.toList_eq]
        intro e
        exact h0 (congrArg List.length e)
      have i0 : (0 : Int) < (rest.size : Int) := by omega
      have hem : rest.toList.isEmpty = false := by
        cases he : rest.toList with
        | nil => exact absurd he hl0
        | cons b r => rfl
      clear h0
      gi_wp2_with fail
      refine ⟨trivial, fun _ => by omega, ?_⟩
      refine (callsIn_wide.2 (in_any (rest[0]'hp0) wr)).mono ?_
      obtain ⟨t, ht⟩ : ∃ t, t = inB (rest[0]'hp0) := ⟨_, rfl⟩
      rw [← ht]
      have HT := Lib.hid ht
      clear ht
      rintro e w' ⟨rfl, hw⟩
      have hw2 := hw.symm
      clear hw
      subst hw2
      gi_wp2_with fail
      gi_loopw [4] (fun vn w2 => ∃ k : Nat, 1 ≤ k ∧ k ≤ rest.size ∧ vn = .int .i64 (k : Int) ∧ (∀ j (hj : j < rest.size), j < k → inB (rest[j]'hj) = t) ∧ w2 = wr) (fun vn _ => rest.size - (intOf vn).toNat)
      case atStart => exact ⟨1, Nat.le_refl _, hp0, rfl, fun j hj h1 => by
        have hj0 : j = 0 := by omega
        subst hj0
        exact HT.out.symm, rfl⟩
      case round =>
        obtain ⟨k, hk1, hks, rfl, hka, hw⟩ := hrel
        have hw2 := hw.symm
        clear hw
        subst hw2
        have HK := Lib.hid hka
        have hk2 : (k : Int) ≤ (rest.size : Int) := by omega
        have hk3 : (0 : Int) ≤ (k : Int) := by omega
        clear hka
        by_cases hlt : k < rest.size
        · have hlt1 : (k : Int) < (rest.size : Int) := by omega
          gi_wp2_with fail
          refine ⟨trivial, fun _ => by omega, ?_⟩
          refine (callsIn_wide.2 (in_any (rest[k]'hlt) _)).mono ?_
          cases hq : inB (rest[k]'hlt) == t with
          | true =>
            have e : inB (rest[k]'hlt) = t := by simpa using hq
            have HE := Lib.hid e
            rw [e]
            clear e hq
            rintro e w2 ⟨rfl, hw⟩
            have hw2 := hw.symm
            clear hw
            subst hw2
            gi_wp2_with fail
            refine ⟨⟨k + 1, by omega, by omega, by go_num, fun j hj h1 => ?_, trivial⟩, by first | (simp [intOf]; done) | (simp [intOf]; omega)⟩
            by_cases hjk : j = k
            · subst hjk
              exact HE.out
            · exact HK.out j hj (by omega)
          | false =>
            have hne : inB (rest[k]'hlt) ≠ t := by simpa using hq
            have HNE := Lib.hid hne
            obtain ⟨q, hqq⟩ : ∃ q, q = inB (rest[k]'hlt) := ⟨_, rfl⟩
            rw [← hqq] at hq ⊢
            clear hne hqq
            rintro e w2 ⟨rfl, hw⟩
            have hw2 := hw.symm
            clear hw
            subst hw2
            have HM := Lib.hid (piecesB_first rest k t hk1 (by omega) HK.out (fun hj => HNE.out))
            have HCL := Lib.hid (show cellLen ⟨bs, 0, none⟩ wr = rest.size by unfold cellLen; rw [hcell])
            obtain ⟨fn, tmps, assign, body, hy, hR⟩ := hY pre (rest.extract 0 k, t) wr (by rw [HSP.out, HM.out]; exact ⟨piecesB (rest.extract k rest.size), by simp⟩) hJ
            gi_wp2_with fail
            refine ⟨fun _ => by omega, ?_⟩
            refine hR.mono ?_
            rintro e W3 (⟨rfl, hJ3, hc3, hf3⟩ | ⟨rfl, hJx3⟩)
            · have hc4 := hc3.trans hcell
              have hf4 := hf3.trans hfr
              have HJ3 := Lib.hid hJ3
              clear hc3 hf3 hcell hfr hJ hJ3
              gi_wp2
              go_roundw
              case rel =>
                refine ⟨pre ++ [(rest.extract 0 k, t)], rest.extract k rest.size, ?_, HJC.out _ _ _ HJ3.out, World.cell?_setCell_same' _ _ _ (by rw [hc4]; rfl), by rw [World.frozen?_setCell]; exact hf4, by rw [ByteArray.size_extract]; omega⟩
                rw [HSP.out, HM.out, List.append_assoc]
                rfl
              case measure =>
                rw [HCL.out]
                unfold cellLen
                rw [World.cell?_setCell_same' _ _ _ (by rw [hc4]; rfl)]
                simp only [ByteArray.size_extract]
                omega
            · gi_wp2
              refine bodyPost_ret (results_none rfl _ _ _) rfl ?_
              refine ⟨⟨_, rfl⟩, .inr ⟨_, ?_, hJx3⟩⟩
              rw [HSP.out, HM.out]
              exact ⟨piecesB (rest.extract k rest.size), by simp⟩
        · have hlt1 : ¬ (k : Int) < (rest.size : Int) := by omega
          have hlt2 : decide ((k : Int) < (rest.size : Int)) = false := decide_eq_false hlt1
          have hlt3 : ((k : Int) < (rest.size : Int)) = False := eq_false hlt1
          clear hlt1
          have HM := Lib.hid (piecesB_first rest k t hk1 (by omega) HK.out (fun hj => absurd hj hlt))
          have HCL := Lib.hid (show cellLen ⟨bs, 0, none⟩ wr = rest.size by unfold cellLen; rw [hcell])
          obtain ⟨fn, tmps, assign, body, hy, hR⟩ := hY pre (rest.extract 0 k, t) wr (by rw [HSP.out, HM.out]; exact ⟨piecesB (rest.extract k rest.size), by simp⟩) hJ
          gi_wp2_with fail
          refine ⟨trivial, ?_⟩
          gi_wp2_with fail
          refine ⟨fun _ => by omega, ?_⟩
          refine hR.mono ?_
          rintro e W3 (⟨rfl, hJ3, hc3, hf3⟩ | ⟨rfl, hJx3⟩)
          · have hc4 := hc3.trans hcell
            have hf4 := hf3.trans hfr
            have HJ3 := Lib.hid hJ3
            clear hc3 hf3 hcell hfr hJ hJ3
            gi_wp2
            go_roundw
            case rel =>
              refine ⟨pre ++ [(rest.extract 0 k, t)], rest.extract k rest.size, ?_, HJC.out _ _ _ HJ3.out, World.cell?_setCell_same' _ _ _ (by rw [hc4]; rfl), by rw [World.frozen?_setCell]; exact hf4, by rw [ByteArray.size_extract]; omega⟩
              rw [HSP.out, HM.out, List.append_assoc]
              rfl
            case measure =>
              rw [HCL.out]
              unfold cellLen
              rw [World.cell?_setCell_same' _ _ _ (by rw [hc4]; rfl)]
              simp only [ByteArray.size_extract]
              omega
          · gi_wp2
            refine bodyPost_ret (results_none rfl _ _ _) rfl ?_
            refine ⟨⟨_, rfl⟩, .inr ⟨_, ?_, hJx3⟩⟩
            rw [HSP.out, HM.out]
            exact ⟨piecesB (rest.extract k rest.size), by simp⟩
end Go.Proofs.YtmhpnidhokcaeaaDoor
