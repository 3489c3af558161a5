/- Chapter 05's statements: what their arguments are; LinesBack's contract. -/
import Derived.Test.YtmhpnidhokcaeaaDoorLinesH
import Derived.Test.YtmhpnidhokcaeaaDoorOpen
set_option linter.unusedVariables false
set_option linter.unusedSimpArgs false
namespace Go.Proofs.YtmhpnidhokcaeaaDoor
open Go Go.RowKit Go.Proofs.YtmhpnidhokcaeaaDoorW.PrintWords Go.Proofs.YtmhpnidhokcaeaaDoorW.PrintLast

def goodL (xs : List ByteArray) : Prop := xs.length * 16 ≤ 140737488351232 ∧ ∀ x ∈ xs, x.size ≤ 140737488351232
theorem opens_lines : Opens Tryd.prog 23 (Kd.slice 9 Kd.string) goodL :=
  Opens.slice Tryd.underlying23 (by kernel_rfl) (B := 16) (by kernel_rfl) (Opens.string Tryd.underlying9)
theorem lines_open {w : World} {x : List ByteArray} {A : Option Addr} {n c : Nat} (h : (Kd.slice 9 Kd.string).K w x [.slice A n c]) : n = x.length ∧ x.length ≤ c ∧ Kd.string.C w A x.length x := by
  obtain ⟨A', c', e, l, g⟩ := h
  injection e with e _
  injection e with a b c
  subst a
  subst b
  subst c
  exact ⟨rfl, l, g⟩
theorem map_ba_bl (x : List ByteArray) : (x.map bl).map ba = x := by
  rw [List.map_map, show (ba ∘ bl) = id from funext fun s => ba_bl s, List.map_id]
theorem map_bl_ba (x : List (List UInt8)) : (x.map ba).map bl = x := by
  rw [List.map_map, show (bl ∘ ba) = id from funext fun s => bl_ba s, List.map_id]
theorem plainB_iff (s : ByteArray) : plainB s = true ↔ (10 : UInt8) ∉ bl s := by
  unfold plainB
  rw [Bool.not_eq_true', ← Bool.not_eq_true, List.contains_iff_mem]
theorem rightB_iff (x : List ByteArray) : rightB x = true ↔ ∀ y ∈ x.map bl, (10 : UInt8) ∉ y := by
  unfold rightB
  rw [List.all_eq_true]
  constructor
  · intro h y hy
    obtain ⟨z, hz, rfl⟩ := List.mem_map.1 hy
    exact (plainB_iff z).1 (h z hz)
  · intro h z hz
    exact (plainB_iff z).2 (h _ (List.mem_map_of_mem hz))
theorem split_join (x : List ByteArray) (h : rightB x = true) : splitOf (ba (joinOf x)) = (x, true) := by
  have h1 := linesOf_textOf (x.map bl) ((rightB_iff x).1 h) []
  rw [List.append_nil] at h1
  unfold splitOf joinOf
  rw [bl_ba, h1]
  show (if ([] : List UInt8) = [] then _ else _) = _
  rw [if_pos rfl]
  show ((x.map bl ++ []).map ba, true) = _
  rw [List.append_nil, map_ba_bl]
theorem split_yes (s : ByteArray) (h : (splitOf s).2 = true) : ba (joinOf (splitOf s).1) = s ∧ rightB (splitOf s).1 = true ∧ (splitOf s).1.length = (bl s).count 10 := by
  have h0 : (linesOf (bl s)).2 = [] := by
    unfold splitOf at h
    by_cases e : (linesOf (bl s)).2 = []
    · exact e
    · rw [if_neg e] at h
      cases h
  have e : splitOf s = ((linesOf (bl s)).1.map ba, true) := by
    unfold splitOf
    rw [if_pos h0]
  rw [e]
  have ht := linesOf_text (bl s)
  rw [h0, List.append_nil] at ht
  refine ⟨?_, ?_, ?_⟩
  · show ba (textOf (((linesOf (bl s)).1.map ba).map bl)) = s
    rw [map_bl_ba, ht, ba_bl]
  · rw [rightB_iff]
    show ∀ y ∈ ((linesOf (bl s)).1.map ba).map bl, _
    rw [map_bl_ba]
    exact (linesOf_right (bl s)).1
  · rw [List.length_map, linesOf_count]
theorem split_no (s : ByteArray) (h : (splitOf s).2 = false) : (splitOf s).1 = [] ∧ s.toList.isEmpty = false := by
  have h0 : (linesOf (bl s)).2 ≠ [] := by
    intro e
    unfold splitOf at h
    rw [if_pos e] at h
    cases h
  refine ⟨by unfold splitOf; rw [if_neg h0], ?_⟩
  rw [ByteArray.toList_eq]
  cases he : s.data.toList with
  | nil =>
    rw [show bl s = [] from he] at h0
    exact absurd rfl h0
  | cons b l => rfl
theorem count_le (s : ByteArray) : (bl s).count 10 ≤ s.size := by
  rw [← bl_size]
  exact List.count_le_length
theorem join_size (x : List ByteArray) : (ba (joinOf x)).size = (joinOf x).length := by
  rw [← bl_size, bl_ba]

set_option maxRecDepth 100000 in
set_option maxHeartbeats 16000000 in
theorem back_law (w : World) (s : ByteArray) (hs : s.size ≤ 140737488351232) (x : List ByteArray) (A : Option Addr) (n c : Nat) (h : (Kd.slice 9 Kd.string).K w x [.slice A n c]) (g : goodL x) (hm : Cell0 w) :
    Calls Tryd.prog 8 #[.string s, .slice A n c] w fun e w' => e = .returned (.bool true) ∧ Below w.heap.size w w' := by
  obtain ⟨rfl, hc, hA⟩ := lines_open h
  have gx : x.length < 100000000000000 := by have := g.1; omega
  have HX := Lib.hid hA
  have HM := Lib.hid hm
  obtain ⟨n, hn⟩ : ∃ n, n = x.length := ⟨_, rfl⟩
  rw [← hn] at hc gx HX ⊢
  have HL := Lib.hid hn.symm
  clear h g hA hn hm
  go_enter Tryd.func8, Tryd.ntmps8
  go_wp2_with fail
  refine (head_any w HM.out).mono ?_
  rintro e w1 ⟨rfl, hB⟩
  have HB1 := Lib.hid hB
  have HX := Lib.hid (Kd.C_below HX.out hB)
  clear hB
  by_cases bs : 20000 < s.size
  · have bs' : (20000 : Int) < (s.size : Int) := by omega
    go_wp2_with fail
    go_ret
    exact ⟨by simp, HB1.out⟩
  · have bs' : ¬ (20000 : Int) < (s.size : Int) := by omega
    go_wp2_with fail
    obtain ⟨r, hr, hcall⟩ := great_n n c x A w1 HL.out HX.out hc gx
    refine (hcall).mono ?_
    rintro e w2 ⟨rfl, hB⟩
    have HB2 := Lib.hid (below_then HB1.out HB1.out.size hB)
    have HX := Lib.hid (Kd.C_below HX.out hB)
    clear hB
    clear hcall
    cases r with
    | false =>
      obtain ⟨bj, bn⟩ := hr rfl
      clear hr
      have hR := fun w h => right_n A n c x HL.out w h (by omega)
      obtain ⟨q, hq⟩ : ∃ q, q = rightB x := ⟨_, rfl⟩
      rw [← hq] at hR
      have HR := Lib.hid hR
      have HQ := Lib.hid hq.symm
      clear hR hq
      go_wp2_with fail
      refine (HR.out w2 HX.out).mono ?_
      rintro e w3 ⟨rfl, hB⟩
      have HB3 := Lib.hid (below_then HB2.out HB2.out.size hB)
      have HX := Lib.hid (Kd.C_below HX.out hB)
      clear hB
      cases q with
      | false =>
        go_wp2_with fail
        have hsp := fun w hm => split_n s w hm (by omega)
        obtain ⟨b, hb⟩ : ∃ b, b = (splitOf s).2 := ⟨_, rfl⟩
        obtain ⟨ys, hys⟩ : ∃ ys, ys = (splitOf s).1 := ⟨_, rfl⟩
        have hno := split_no s
        have hyes := split_yes s
        rw [← hb, ← hys] at hsp hno hyes
        have HSP := Lib.hid hsp
        have HNO := Lib.hid hno
        have HYES := Lib.hid hyes
        clear hsp hno hyes hb hys
        refine (HSP.out w3 (HM.out.below HB3.out)).mono ?_
        rintro e w4 ⟨A3, n3, c3, rfl, hn3, hc3, hC3, hB⟩
        have HB4 := Lib.hid (below_then HB3.out HB3.out.size hB)
        have HX := Lib.hid (Kd.C_below HX.out hB)
        clear hB
        have H3 := Lib.hid hC3
        clear hC3
        cases b with
        | false =>
          obtain ⟨rfl, hem⟩ := HNO.out rfl
          obtain rfl : n3 = 0 := hn3.symm
          go_wp2_with fail
          go_ret
          exact ⟨by simp [hem], HB4.out⟩
        | true =>
          obtain ⟨e1, e2, e3⟩ := HYES.out rfl
          have hcl := count_le s
          have hj := congrArg ByteArray.size e1
          rw [join_size] at hj
          have hJ := fun w h => join_any A3 n3 c3 ys hn3 w h (by omega) (by omega)
          rw [e1] at hJ
          have hR := fun w h => right_n A3 n3 c3 ys hn3 w h (by omega)
          rw [e2] at hR
          have HJ := Lib.hid hJ
          have HR := Lib.hid hR
          have hss : (s.toList == s.toList) = true := by simp
          clear hJ hR e1 e2 e3 hcl hj hn3
          go_wp2_with fail
          refine (HJ.out w4 H3.out).mono ?_
          rintro e w5 ⟨rfl, hB⟩
          have HB5 := Lib.hid (below_then HB4.out HB4.out.size hB)
          have HX := Lib.hid (Kd.C_below HX.out hB)
          have H3 := Lib.hid (Kd.C_below H3.out hB)
          clear hB
          go_wp2_with fail
          refine (HR.out w5 H3.out).mono ?_
          rintro e w6 ⟨rfl, hB⟩
          have HB6 := Lib.hid (below_then HB5.out HB5.out.size hB)
          have HX := Lib.hid (Kd.C_below HX.out hB)
          have H3 := Lib.hid (Kd.C_below H3.out hB)
          clear hB
          go_wp2_with fail
          go_ret
          exact ⟨by simp, HB6.out⟩
      | true =>
        go_wp2_with fail
        refine (join_any A n c x HL.out w3 HX.out (by omega) (by omega)).mono ?_
        rintro e w4 ⟨rfl, hB⟩
        have HB4 := Lib.hid (below_then HB3.out HB3.out.size hB)
        have HX := Lib.hid (Kd.C_below HX.out hB)
        clear hB
        go_wp2_with fail
        have hsj := fun w hm => split_n (ba (joinOf x)) w hm (by rw [join_size]; omega)
        rw [split_join x HQ.out] at hsj
        have HSJ := Lib.hid hsj
        clear hsj
        refine (HSJ.out w4 (HM.out.below HB4.out)).mono ?_
        rintro e w5 ⟨A2, n2, c2, rfl, hn2, hc2, hC2, hB⟩
        have HB5 := Lib.hid (below_then HB4.out HB4.out.size hB)
        have HX := Lib.hid (Kd.C_below HX.out hB)
        clear hB
        have H2 := Lib.hid hC2
        clear hC2
        obtain rfl : n2 = n := hn2.symm.trans HL.out
        go_wp2_with fail
        have hsa := fun w h2 hx => lsame_n n2 n2 c2 c x x A2 A w HL.out HL.out h2 hc2 hx hc (by omega)
        rw [decide_eq_true rfl] at hsa
        refine (hsa w5 H2.out HX.out).mono ?_
        rintro e w6 ⟨rfl, hB⟩
        have HB6 := Lib.hid (below_then HB5.out HB5.out.size hB)
        have HX := Lib.hid (Kd.C_below HX.out hB)
        have H2 := Lib.hid (Kd.C_below H2.out hB)
        clear hB
        clear hsa
        go_wp2_with fail
        have hsp := fun w hm => split_n s w hm (by omega)
        obtain ⟨b, hb⟩ : ∃ b, b = (splitOf s).2 := ⟨_, rfl⟩
        obtain ⟨ys, hys⟩ : ∃ ys, ys = (splitOf s).1 := ⟨_, rfl⟩
        have hno := split_no s
        have hyes := split_yes s
        rw [← hb, ← hys] at hsp hno hyes
        have HSP := Lib.hid hsp
        have HNO := Lib.hid hno
        have HYES := Lib.hid hyes
        clear hsp hno hyes hb hys
        refine (HSP.out w6 (HM.out.below HB6.out)).mono ?_
        rintro e w7 ⟨A3, n3, c3, rfl, hn3, hc3, hC3, hB⟩
        have HB7 := Lib.hid (below_then HB6.out HB6.out.size hB)
        have HX := Lib.hid (Kd.C_below HX.out hB)
        have H2 := Lib.hid (Kd.C_below H2.out hB)
        clear hB
        have H3 := Lib.hid hC3
        clear hC3
        cases b with
        | false =>
          obtain ⟨rfl, hem⟩ := HNO.out rfl
          obtain rfl : n3 = 0 := hn3.symm
          go_wp2_with fail
          go_ret
          exact ⟨by simp [hem], HB7.out⟩
        | true =>
          obtain ⟨e1, e2, e3⟩ := HYES.out rfl
          have hcl := count_le s
          have hj := congrArg ByteArray.size e1
          rw [join_size] at hj
          have hJ := fun w h => join_any A3 n3 c3 ys hn3 w h (by omega) (by omega)
          rw [e1] at hJ
          have hR := fun w h => right_n A3 n3 c3 ys hn3 w h (by omega)
          rw [e2] at hR
          have HJ := Lib.hid hJ
          have HR := Lib.hid hR
          have hss : (s.toList == s.toList) = true := by simp
          clear hJ hR e1 e2 e3 hcl hj hn3
          go_wp2_with fail
          refine (HJ.out w7 H3.out).mono ?_
          rintro e w8 ⟨rfl, hB⟩
          have HB8 := Lib.hid (below_then HB7.out HB7.out.size hB)
          have HX := Lib.hid (Kd.C_below HX.out hB)
          have H2 := Lib.hid (Kd.C_below H2.out hB)
          have H3 := Lib.hid (Kd.C_below H3.out hB)
          clear hB
          go_wp2_with fail
          refine (HR.out w8 H3.out).mono ?_
          rintro e w9 ⟨rfl, hB⟩
          have HB9 := Lib.hid (below_then HB8.out HB8.out.size hB)
          have HX := Lib.hid (Kd.C_below HX.out hB)
          have H2 := Lib.hid (Kd.C_below H2.out hB)
          have H3 := Lib.hid (Kd.C_below H3.out hB)
          clear hB
          go_wp2_with fail
          go_ret
          exact ⟨by simp, HB9.out⟩
    | true =>
      clear hr
      go_wp2_with fail
      go_ret
      exact ⟨by simp, HB2.out⟩
end Go.Proofs.YtmhpnidhokcaeaaDoor
