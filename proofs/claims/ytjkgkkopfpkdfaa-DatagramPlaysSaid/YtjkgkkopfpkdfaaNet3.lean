import Derived.Test.YtjkgkkopfpkdfaaNet2
set_option linter.unusedVariables false
set_option linter.unusedSimpArgs false
namespace Go.Proofs.Ytjkgkkopfpkdfaa
open Go.RowKit Go.Conc Go.Proofs.YtjkgkkopfpkdfaaW.PrintWords

/-- What goes round and stays, of the first k. -/
def keptTo (b : Nat → Bool) (vals : List Value) : Nat → List Value
  | 0 => []
  | k + 1 => keptTo b vals k ++ if b k then [vals.getD k undef] else []
theorem keptTo_le (b : Nat → Bool) (vals : List Value) : ∀ k, (keptTo b vals k).length ≤ k
  | 0 => Nat.le_refl _
  | k + 1 => by
    have := keptTo_le b vals k
    simp only [keptTo, List.length_append]
    split <;> simp <;> omega

def IsAgg (v : Value) : Prop := ∃ f t A n c, v = .agg #[.int .i64 f, .int .i64 t, .slice A n c]

theorem extract_tail (x : Value) (l : List Value) : (x :: l).toArray.extract 1 (x :: l).toArray.size = l.toArray := by
  simp [List.take_of_length_le]

set_option maxHeartbeats 1000000 in
theorem round_any (nb c : Nat) (vals : List Value) (F : Nat) (caps : Array Value) (w : World) (hn : NetAt w nb c vals) (hl : vals.length ≤ 256) (hag : ∀ v ∈ vals, IsAgg v)
    (henter : ∀ (args : Array Value) (w : World), (callFunc F args).run Try.prog w = .ok (.enter F args) w)
    (J : Nat → World → Prop) (b : Nat → Bool) (J0 : J 0 w) (hJ : ∀ k w1 w2, J k w1 → w1.grownBy w2 (some c) → J k w2)
    (hstep : ∀ (k : Nat) (wA : World) (f t : Int) (A : Option Addr) (n cp : Nat), k < vals.length → J k wA → nb < wA.heap.size → c < wA.heap.size → vals.getD k undef = .agg #[.int .i64 f, .int .i64 t, .slice A n cp] →
      Calls Try.prog F (#[.int .i64 k, .agg #[.int .i64 f, .int .i64 t, .slice A n cp]] ++ caps) (wA.alloc (.cells #[.int .i64 f, .int .i64 t, .slice A n cp] 33)) fun e w' =>
      e = .returned (.bool (b k)) ∧ J (k + 1) w' ∧ w'.heap[nb]? = wA.heap[nb]? ∧ w'.heap[c]? = wA.heap[c]? ∧ w'.heap[wA.heap.size]? = some (.cells #[.int .i64 f, .int .i64 t, .slice A n cp] 33 (0, 0))) :
    Calls Try.prog 21 #[.pointer (some ⟨nb, 0, none⟩), .func (.func F) #[] caps] w fun e w' =>
      e = .returned (.tuple #[]) ∧ J vals.length w' ∧ NetAt w' nb c (keptTo b vals vals.length) := by
  have hcell := hn.cell
  obtain ⟨hlt, hlc⟩ := hn.lt
  obtain ⟨hb0, s0, r0, hch⟩ := id hn
  have hlen : (Builtin.len_ #[46] 3 #[.chan (some c)]).run Try.prog w = .ok (goInt vals.toArray.size) w := run_len_chan _ _ Try.underlying46 hch
  have HN := Lib.hid hn
  have HS := Lib.hid hstep
  have HJ := Lib.hid hJ
  have HJ0 := Lib.hid J0
  have HA := Lib.hid hag
  clear hn hb0 hch hstep hJ J0 hag
  go_enter Try.func21, Try.ntmps21
  go_wp2
  go_loopw [11] (fun v wr => ∃ k : Nat, k ≤ vals.length ∧ v = .int .i64 k ∧ J k wr ∧ NetAt wr nb c (vals.drop k ++ keptTo b vals k)) (fun v _ => vals.length - (intOf v).toNat)
  case atStart => exact ⟨0, Nat.zero_le _, rfl, HJ0.out, by simpa [keptTo] using HN.out⟩
  case round =>
    obtain ⟨k, hk, rfl, hj, hnk⟩ := hrel
    by_cases hlt' : k < vals.length
    · have d1 : decide ((k : Int) < (vals.length : Int)) = true := by simpa using hlt'
      obtain ⟨hnlt, hnlc⟩ := hnk.lt
      have hcr := hnk.cell
      obtain ⟨hb1, s1, r1, hch1⟩ := id hnk
      obtain ⟨f, t, A, n, cp, hv⟩ := HA.out vals[k] (List.getElem_mem hlt')
      have hdrop : vals.drop k = .agg #[.int .i64 f, .int .i64 t, .slice A n cp] :: vals.drop (k + 1) := by
        rw [List.drop_eq_getElem_cons hlt', hv]
      have hget : vals.getD k undef = .agg #[.int .i64 f, .int .i64 t, .slice A n cp] := by
        rw [List.getD_eq_getElem?_getD, List.getElem?_eq_getElem hlt']; exact hv
      rw [hdrop] at hch1
      have HV := Lib.hid hget
      have HD := Lib.hid hdrop
      have HCH := Lib.hid hch1
      have HNK := Lib.hid hnk
      have HJK := Lib.hid hj
      clear hget hdrop hch1 hnk hb1 hv hj
      go_upto_region 3 with (fail)
      refine wp_region_rw ?_
      refine RW_pre_list (rest := [4, 5, 6]) 4 (by decide) ?_
      simp only [List.take_succ_cons, List.take_zero]
      go_wp2
      refine RW_cons (OpStep_recv (v := .agg #[.int .i64 f, .int .i64 t, .slice A n cp]) rfl rfl rfl Try.underlying46 (zeroPkt _) rfl HCH.out (by simp) rfl (fun wA hwA => ?_))
      have hnA : NetAt wA nb c (vals.drop (k + 1) ++ keptTo b vals k) := by
        rw [hwA, List.cons_append, extract_tail]
        exact HNK.out.set s1 (r1 + 1)
      have hgA : wr.grownBy wA (some c) := by
        rw [hwA]
        exact gb_setChan (gb_refl _ _) _ _ _ _ _ _
      have hcA := hnA.cell
      obtain ⟨hltA, hlcA⟩ := hnA.lt
      have HNA := Lib.hid hnA
      have HGA := Lib.hid hgA
      clear hnA hgA hwA
      refine RW_list 5 rfl rfl ?_
      go_wp2_with fail
      have hcall := HS.out k wA f t A n cp hlt' (HJ.out _ _ _ HJK.out HGA.out) hltA hlcA HV.out
      obtain hb | hb := Bool.eq_false_or_eq_true (b k)
      · rw [hb] at hcall
        refine hcall.mono ?_
        rintro e w2 ⟨rfl, hj2, e1, e2, e3⟩
        obtain ⟨n1, s2, r2, n2⟩ := HNA.out
        rw [← e1] at n1
        rw [← e2] at n2
        obtain ⟨p0, p1, p2, _⟩ := cells3 e3
        obtain ⟨q0, _⟩ := cells1 n1
        have HJ2 := Lib.hid hj2
        have HN1 := Lib.hid n1
        have HN2 := Lib.hid n2
        clear hj2 e1 e2 e3 n1 n2 hcall
        go_upto_region 5 with (fail)
        have hroom : (vals.drop (k + 1) ++ keptTo b vals k).toArray.size < 256 := by
          have := keptTo_le b vals k
          simp
          omega
        have hfin : ∀ w3, w3 = w2.drew.setChan c 256 ((vals.drop (k + 1) ++ keptTo b vals k).toArray.push (.agg #[.int .i64 f, .int .i64 t, .slice A n cp])) false (s2 + 1) r2 false →
            Hid (J (k + 1) w3 ∧ NetAt w3 nb c (vals.drop (k + 1) ++ keptTo b vals (k + 1))) := by
          rintro w3 rfl
          refine ⟨HJ.out _ _ _ HJ2.out (gb_setChan (gb_drew (gb_refl _ _)) _ _ _ _ _ _), ?_⟩
          have hnet : NetAt w2.drew nb c (vals.drop (k + 1) ++ keptTo b vals k) := ⟨HN1.out, s2, r2, HN2.out⟩
          have e : keptTo b vals (k + 1) = keptTo b vals k ++ [.agg #[.int .i64 f, .int .i64 t, .slice A n cp]] := by
            simp only [keptTo, hb, if_true]
            rw [HV.out]
          rw [e, ← List.append_assoc, List.push_toArray]
          exact hnet.set (s2 + 1) r2
        refine wp_region_any_rw #[false, false, false, false, false, false] rfl rfl rfl ?_
        refine RWAny_two (i := 0) (j := 4) #[true, false, false, false, false, false] #[false, false, false, false, true, false] (by kernel_rfl) ?_ ?_
        · skip
          refine OpStep_val (i := 0) (N := some 23) (v := ?_) (a' := ?_) rfl rfl rfl ?_ ?_ ?_
          rotate_left 2
          · go_simp; with_reducible rfl
          · simp only [Act.put, List.setIfInBounds_toArray, List.set_cons_zero, List.set_cons_succ]; rfl
          refine RWAny_two (i := 1) (j := 4) #[true, true, false, false, false, false] #[true, false, false, false, true, false] (by kernel_rfl) ?_ ?_
          · skip
            refine OpStep_val (i := 1) (N := some 24) (v := ?_) (a' := ?_) rfl rfl rfl ?_ ?_ ?_
            rotate_left 2
            · go_simp; with_reducible rfl
            · simp only [Act.put, List.setIfInBounds_toArray, List.set_cons_zero, List.set_cons_succ]; rfl
            refine RWAny_two (i := 2) (j := 4) #[true, true, true, false, false, false] #[true, true, false, false, true, false] (by kernel_rfl) ?_ ?_
            · skip
              refine OpStep_val (i := 2) (N := some 25) (v := ?_) (a' := ?_) rfl rfl rfl ?_ ?_ ?_
              rotate_left 2
              · go_simp; with_reducible rfl
              · simp only [Act.put, List.setIfInBounds_toArray, List.set_cons_zero, List.set_cons_succ]; rfl
              refine RWAny_two (i := 3) (j := 4) #[true, true, true, true, false, false] #[true, true, true, false, true, false] (by kernel_rfl) ?_ ?_
              · skip
                refine OpStep_val (i := 3) (N := some 26) (v := ?_) (a' := ?_) rfl rfl rfl ?_ ?_ ?_
                rotate_left 2
                · go_simp; with_reducible rfl
                · simp only [Act.put, List.setIfInBounds_toArray, List.set_cons_zero, List.set_cons_succ]; rfl
                refine RWAny_one (i := 4) #[true, true, true, true, true, false] (by kernel_rfl) ?_
                refine OpStep_val (i := 4) (N := some 27) (v := ?_) (a' := ?_) rfl rfl rfl ?_ ?_ ?_
                rotate_left 2
                · go_simp; with_reducible rfl
                · simp only [Act.put, List.setIfInBounds_toArray, List.set_cons_zero, List.set_cons_succ]; rfl
                refine RWAny_one (i := 5) #[true, true, true, true, true, true] (by kernel_rfl) (OpStep_send (v := .agg #[.int .i64 f, .int .i64 t, .slice A n cp]) rfl rfl rfl rfl rfl HN2.out hroom (fun w3 hw3 => RWAny_done (by kernel_rfl) ?_))
                have HW3 := hfin w3 hw3
                clear hw3
                go_wp2
                go_roundw
                case rel => exact ⟨k + 1, by omega, by go_num, HW3.out.1, HW3.out.2⟩
                case measure => simp [intOf]; omega
              · skip
                refine OpStep_val (i := 4) (N := some 27) (v := ?_) (a' := ?_) rfl rfl rfl ?_ ?_ ?_
                rotate_left 2
                · go_simp; with_reducible rfl
                · simp only [Act.put, List.setIfInBounds_toArray, List.set_cons_zero, List.set_cons_succ]; rfl
                refine RWAny_one (i := 3) #[true, true, true, true, true, false] (by kernel_rfl) ?_
                refine OpStep_val (i := 3) (N := some 26) (v := ?_) (a' := ?_) rfl rfl rfl ?_ ?_ ?_
                rotate_left 2
                · go_simp; with_reducible rfl
                · simp only [Act.put, List.setIfInBounds_toArray, List.set_cons_zero, List.set_cons_succ]; rfl
                refine RWAny_one (i := 5) #[true, true, true, true, true, true] (by kernel_rfl) (OpStep_send (v := .agg #[.int .i64 f, .int .i64 t, .slice A n cp]) rfl rfl rfl rfl rfl HN2.out hroom (fun w3 hw3 => RWAny_done (by kernel_rfl) ?_))
                have HW3 := hfin w3 hw3
                clear hw3
                go_wp2
                go_roundw
                case rel => exact ⟨k + 1, by omega, by go_num, HW3.out.1, HW3.out.2⟩
                case measure => simp [intOf]; omega
            · skip
              refine OpStep_val (i := 4) (N := some 27) (v := ?_) (a' := ?_) rfl rfl rfl ?_ ?_ ?_
              rotate_left 2
              · go_simp; with_reducible rfl
              · simp only [Act.put, List.setIfInBounds_toArray, List.set_cons_zero, List.set_cons_succ]; rfl
              refine RWAny_one (i := 2) #[true, true, true, false, true, false] (by kernel_rfl) ?_
              refine OpStep_val (i := 2) (N := some 25) (v := ?_) (a' := ?_) rfl rfl rfl ?_ ?_ ?_
              rotate_left 2
              · go_simp; with_reducible rfl
              · simp only [Act.put, List.setIfInBounds_toArray, List.set_cons_zero, List.set_cons_succ]; rfl
              refine RWAny_one (i := 3) #[true, true, true, true, true, false] (by kernel_rfl) ?_
              refine OpStep_val (i := 3) (N := some 26) (v := ?_) (a' := ?_) rfl rfl rfl ?_ ?_ ?_
              rotate_left 2
              · go_simp; with_reducible rfl
              · simp only [Act.put, List.setIfInBounds_toArray, List.set_cons_zero, List.set_cons_succ]; rfl
              refine RWAny_one (i := 5) #[true, true, true, true, true, true] (by kernel_rfl) (OpStep_send (v := .agg #[.int .i64 f, .int .i64 t, .slice A n cp]) rfl rfl rfl rfl rfl HN2.out hroom (fun w3 hw3 => RWAny_done (by kernel_rfl) ?_))
              have HW3 := hfin w3 hw3
              clear hw3
              go_wp2
              go_roundw
              case rel => exact ⟨k + 1, by omega, by go_num, HW3.out.1, HW3.out.2⟩
              case measure => simp [intOf]; omega
          · skip
            refine OpStep_val (i := 4) (N := some 27) (v := ?_) (a' := ?_) rfl rfl rfl ?_ ?_ ?_
            rotate_left 2
            · go_simp; with_reducible rfl
            · simp only [Act.put, List.setIfInBounds_toArray, List.set_cons_zero, List.set_cons_succ]; rfl
            refine RWAny_one (i := 1) #[true, true, false, false, true, false] (by kernel_rfl) ?_
            refine OpStep_val (i := 1) (N := some 24) (v := ?_) (a' := ?_) rfl rfl rfl ?_ ?_ ?_
            rotate_left 2
            · go_simp; with_reducible rfl
            · simp only [Act.put, List.setIfInBounds_toArray, List.set_cons_zero, List.set_cons_succ]; rfl
            refine RWAny_one (i := 2) #[true, true, true, false, true, false] (by kernel_rfl) ?_
            refine OpStep_val (i := 2) (N := some 25) (v := ?_) (a' := ?_) rfl rfl rfl ?_ ?_ ?_
            rotate_left 2
            · go_simp; with_reducible rfl
            · simp only [Act.put, List.setIfInBounds_toArray, List.set_cons_zero, List.set_cons_succ]; rfl
            refine RWAny_one (i := 3) #[true, true, true, true, true, false] (by kernel_rfl) ?_
            refine OpStep_val (i := 3) (N := some 26) (v := ?_) (a' := ?_) rfl rfl rfl ?_ ?_ ?_
            rotate_left 2
            · go_simp; with_reducible rfl
            · simp only [Act.put, List.setIfInBounds_toArray, List.set_cons_zero, List.set_cons_succ]; rfl
            refine RWAny_one (i := 5) #[true, true, true, true, true, true] (by kernel_rfl) (OpStep_send (v := .agg #[.int .i64 f, .int .i64 t, .slice A n cp]) rfl rfl rfl rfl rfl HN2.out hroom (fun w3 hw3 => RWAny_done (by kernel_rfl) ?_))
            have HW3 := hfin w3 hw3
            clear hw3
            go_wp2
            go_roundw
            case rel => exact ⟨k + 1, by omega, by go_num, HW3.out.1, HW3.out.2⟩
            case measure => simp [intOf]; omega
        · skip
          refine OpStep_val (i := 4) (N := some 27) (v := ?_) (a' := ?_) rfl rfl rfl ?_ ?_ ?_
          rotate_left 2
          · go_simp; with_reducible rfl
          · simp only [Act.put, List.setIfInBounds_toArray, List.set_cons_zero, List.set_cons_succ]; rfl
          refine RWAny_one (i := 0) #[true, false, false, false, true, false] (by kernel_rfl) ?_
          refine OpStep_val (i := 0) (N := some 23) (v := ?_) (a' := ?_) rfl rfl rfl ?_ ?_ ?_
          rotate_left 2
          · go_simp; with_reducible rfl
          · simp only [Act.put, List.setIfInBounds_toArray, List.set_cons_zero, List.set_cons_succ]; rfl
          refine RWAny_one (i := 1) #[true, true, false, false, true, false] (by kernel_rfl) ?_
          refine OpStep_val (i := 1) (N := some 24) (v := ?_) (a' := ?_) rfl rfl rfl ?_ ?_ ?_
          rotate_left 2
          · go_simp; with_reducible rfl
          · simp only [Act.put, List.setIfInBounds_toArray, List.set_cons_zero, List.set_cons_succ]; rfl
          refine RWAny_one (i := 2) #[true, true, true, false, true, false] (by kernel_rfl) ?_
          refine OpStep_val (i := 2) (N := some 25) (v := ?_) (a' := ?_) rfl rfl rfl ?_ ?_ ?_
          rotate_left 2
          · go_simp; with_reducible rfl
          · simp only [Act.put, List.setIfInBounds_toArray, List.set_cons_zero, List.set_cons_succ]; rfl
          refine RWAny_one (i := 3) #[true, true, true, true, true, false] (by kernel_rfl) ?_
          refine OpStep_val (i := 3) (N := some 26) (v := ?_) (a' := ?_) rfl rfl rfl ?_ ?_ ?_
          rotate_left 2
          · go_simp; with_reducible rfl
          · simp only [Act.put, List.setIfInBounds_toArray, List.set_cons_zero, List.set_cons_succ]; rfl
          refine RWAny_one (i := 5) #[true, true, true, true, true, true] (by kernel_rfl) (OpStep_send (v := .agg #[.int .i64 f, .int .i64 t, .slice A n cp]) rfl rfl rfl rfl rfl HN2.out hroom (fun w3 hw3 => RWAny_done (by kernel_rfl) ?_))
          have HW3 := hfin w3 hw3
          clear hw3
          go_wp2
          go_roundw
          case rel => exact ⟨k + 1, by omega, by go_num, HW3.out.1, HW3.out.2⟩
          case measure => simp [intOf]; omega
      · rw [hb] at hcall
        refine hcall.mono ?_
        rintro e w2 ⟨rfl, hj2, e1, e2, e3⟩
        obtain ⟨n1, s2, r2, n2⟩ := HNA.out
        rw [← e1] at n1
        rw [← e2] at n2
        have HJ2 := Lib.hid hj2
        have HN1 := Lib.hid n1
        have HN2 := Lib.hid n2
        clear hj2 e1 e2 e3 n1 n2 hcall
        go_wp2
        go_roundw
        case rel => exact ⟨k + 1, by omega, by go_num, HJ2.out, HN1.out, s2, r2, by simpa [keptTo, hb] using HN2.out⟩
        case measure => simp [intOf]; omega
    · go_wp2
      obtain rfl : k = vals.length := by omega
      go_end0
      exact ⟨rfl, hj, by simpa using hnk⟩
end Go.Proofs.Ytjkgkkopfpkdfaa
