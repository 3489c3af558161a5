/- NamedLabels: its law. -/
import Derived.Test.YtijfedahhgcfpaaDoorNm
import Derived.Test.YtijfedahhgcfpaaDoorNamS
import Derived.Test.YtijfedahhgcfpaaDoorOpen
set_option linter.unusedVariables false
set_option linter.unusedSimpArgs false
namespace Go.Proofs.YtijfedahhgcfpaaDoor
open Go.RowKit Go.Proofs.YtijfedahhgcfpaaDoorW.PrintWords Go.Proofs.YtijfedahhgcfpaaDoorW.PrintLast

theorem label_more (s : ByteArray) (c : UInt8) (h : labelB s = true) : labelB (s ++ ⟨#[c]⟩) = (letN c.toNat && decide (s.size < 24)) := by
  unfold labelB at h ⊢
  rw [Bool.and_eq_true, decide_eq_true_iff] at h
  obtain ⟨⟨h1, h2⟩, h3⟩ := h
  have hs : (s ++ ⟨#[c]⟩ : ByteArray).size = s.size + 1 := by rw [ByteArray.size_append]; rfl
  have hd : (s ++ ⟨#[c]⟩ : ByteArray).data.toList = s.data.toList ++ [c] := by simp
  rw [hs, hd, List.all_append, h3]
  simp only [List.all_cons, List.all_nil, Bool.and_true, Bool.true_and]
  rw [Bool.and_comm]
  congr 1
  rw [decide_eq_decide]
  omega
theorem strOf_one (c : Int) (h0 : 0 ≤ c) (h1 : c ≤ 255) : strOfNums [c] = ⟨#[UInt8.ofNat c.toNat]⟩ := rfl
set_option maxRecDepth 100000 in
set_option maxHeartbeats 16000000 in
theorem labels_law (w : World) (s : ByteArray) (hs : s.size ≤ 140737488351232) (c : Int) (hc : (Lit.int .u8 c).wf = true) (hG : Ground w) :
    Calls Tryd.prog 6 #[.string s, .int .u8 c] w fun e w' => e = .returned (.bool true) ∧ Below w.heap.size w w' := by
  have hc01 : 0 ≤ c ∧ c ≤ 255 := by
    have h : IntKind.u8.min ≤ c ∧ c ≤ IntKind.u8.max := by simpa [Lit.wf] using hc
    have e1 : IntKind.u8.min = 0 := by decide
    have e2 : IntKind.u8.max = 255 := by decide
    omega
  have HG := Lib.hid hG
  have HC := Lib.hid hc01
  have HL := Lib.hid (fun s W => label_any s W)
  obtain ⟨q, hq⟩ : ∃ q, q = labelB s := ⟨_, rfl⟩
  have hla := label_any s
  rw [← hq] at hla
  have HLA := Lib.hid hla
  have HQ := Lib.hid hq
  clear hG hc hc01 hla hq
  go_enter Tryd.func6, Tryd.ntmps6
  go_wp2_with fail
  refine (head_any w HG.out).mono ?_
  rintro e w1 ⟨rfl, hB1⟩
  have HB1 := Lib.hid hB1
  clear hB1
  rcases Nat.lt_or_ge 1000 s.size with h1 | h1
  · have h1I : (1000 : Int) < (s.size : Int) := by omega
    go_wp2_with fail
    go_ret
    exact ⟨rfl, HB1.out⟩
  have h1I : ¬ (1000 : Int) < (s.size : Int) := by omega
  go_wp2_with fail
  refine (HLA.out w1).mono ?_
  rintro e w2 ⟨rfl, hB2⟩
  have HB2 := Lib.hid (HB1.out.trans (hB2.mono HB1.out.size))
  clear hB2
  cases q with
  | false =>
    go_wp2_with fail
    go_ret
    exact ⟨rfl, HB2.out⟩
  | true =>
    have hlen : 0 < s.size ∧ s.size ≤ 24 := by
      have h := HQ.out
      unfold labelB at h
      have h2 := (Bool.and_eq_true _ _ ▸ h.symm : _ = true ∧ _ = true).1
      exact of_decide_eq_true h2
    have hle1 : (1 : Int) ≤ (s.size : Int) := by omega
    have hle2 : (s.size : Int) ≤ 24 := by omega
    have hm := label_more s (UInt8.ofNat c.toNat) HQ.out.symm
    have hrun : (convert 26 9 (.slice (some ⟨w2.heap.size, 0, none⟩) 1 1)).run Tryd.prog (w2.alloc (.cells #[.int .u8 c] 5)) = .ok (.string ⟨#[UInt8.ofNat c.toNat]⟩) (w2.alloc (.cells #[.int .u8 c] 5)) := by
      have hC : Kd.C (Kd.int .u8) (w2.alloc (.cells #[.int .u8 c] 5)) (some ⟨w2.heap.size, 0, none⟩) 1 [c] := by
        refine Kd.C_of_reads (d := (0 : Int)) ⟨rfl, by omega, fun _ => ⟨_, rfl, fun j hj => ?_⟩⟩
        obtain rfl : j = 0 := by omega
        have h := cell_of_row _ _ 0 _ _ _ (heap_alloc_new w2 (.cells #[.int .u8 c] 5))
        exact h
      exact Kd.C_string Tryd.underlying26 Tryd.underlying5 Tryd.underlying9 hC
-- CASES{
    have hcs : (c = 46) ∨ (c ≠ 46 ∧ c = 45) ∨ (c ≠ 46 ∧ c ≠ 45 ∧ 97 ≤ c ∧ c ≤ 122) ∨ (c ≠ 46 ∧ c ≠ 45 ∧ 97 ≤ c ∧ ¬ c ≤ 122) ∨ (c ≠ 46 ∧ c ≠ 45 ∧ ¬ 97 ≤ c ∧ 48 ≤ c ∧ c ≤ 57) ∨ (c ≠ 46 ∧ c ≠ 45 ∧ ¬ 97 ≤ c ∧ 48 ≤ c ∧ ¬ c ≤ 57) ∨ (c ≠ 46 ∧ c ≠ 45 ∧ ¬ 97 ≤ c ∧ ¬ 48 ≤ c) := by omega
    rcases hcs with hcc | hcc | hcc | hcc | hcc | hcc | hcc
    · have hf : letN (UInt8.ofNat c.toNat).toNat = true := by
        rw [UInt8.toNat_ofNat_of_lt' (show c.toNat < 256 by have := HC.out; omega)]
        unfold letN
        rw [decide_eq_true_iff]
        have := HC.out
        omega
      have e1 : (c == 46) = true := by rw [beq_iff_eq]; omega
      rw [hf, Bool.true_and] at hm
      clear hf hcc
      rcases Nat.lt_or_ge s.size 24 with h24 | h24
      · have h24I : (s.size : Int) < 24 := by omega
        rw [decide_eq_true h24] at hm
        have HLX := Lib.hid hm
        clear hm
        go_wp2_with fail
        have hl2 := HL.out (s ++ ⟨#[UInt8.ofNat c.toNat]⟩) (w2.alloc (.cells #[.int .u8 c] 5))
        rw [HLX.out] at hl2
        refine hl2.mono ?_
        clear hl2
        rintro e w3 ⟨rfl, hB3⟩
        have HB3 := Lib.hid (HB2.out.trans ((((Below.refl _ w2).alloc (Nat.le_refl _) (.cells #[.int .u8 c] 5)).trans (hB3.mono (by simp))).mono HB2.out.size))
        clear hB3 hrun
        go_wp2_with fail
        go_ret
        exact ⟨rfl, HB3.out⟩
      · have h24I : ¬ (s.size : Int) < 24 := by omega
        rw [decide_eq_false (show ¬ s.size < 24 by omega)] at hm
        have HLX := Lib.hid hm
        clear hm
        go_wp2_with fail
        have hl2 := HL.out (s ++ ⟨#[UInt8.ofNat c.toNat]⟩) (w2.alloc (.cells #[.int .u8 c] 5))
        rw [HLX.out] at hl2
        refine hl2.mono ?_
        clear hl2
        rintro e w3 ⟨rfl, hB3⟩
        have HB3 := Lib.hid (HB2.out.trans ((((Below.refl _ w2).alloc (Nat.le_refl _) (.cells #[.int .u8 c] 5)).trans (hB3.mono (by simp))).mono HB2.out.size))
        clear hB3 hrun
        go_wp2_with fail
        go_ret
        exact ⟨(show Ending.returned (Value.bool (!decide ((s.size : Int) < 24))) = _ by rw [decide_eq_false (by omega)]; rfl), HB3.out⟩
    · have hf : letN (UInt8.ofNat c.toNat).toNat = true := by
        rw [UInt8.toNat_ofNat_of_lt' (show c.toNat < 256 by have := HC.out; omega)]
        unfold letN
        rw [decide_eq_true_iff]
        have := HC.out
        omega
      have e1 : (c == 46) = false := by rw [beq_eq_false_iff_ne, ne_eq]; omega
      have e2 : (c == 45) = true := by rw [beq_iff_eq]; omega
      rw [hf, Bool.true_and] at hm
      clear hf hcc
      rcases Nat.lt_or_ge s.size 24 with h24 | h24
      · have h24I : (s.size : Int) < 24 := by omega
        rw [decide_eq_true h24] at hm
        have HLX := Lib.hid hm
        clear hm
        go_wp2_with fail
        have hl2 := HL.out (s ++ ⟨#[UInt8.ofNat c.toNat]⟩) (w2.alloc (.cells #[.int .u8 c] 5))
        rw [HLX.out] at hl2
        refine hl2.mono ?_
        clear hl2
        rintro e w3 ⟨rfl, hB3⟩
        have HB3 := Lib.hid (HB2.out.trans ((((Below.refl _ w2).alloc (Nat.le_refl _) (.cells #[.int .u8 c] 5)).trans (hB3.mono (by simp))).mono HB2.out.size))
        clear hB3 hrun
        go_wp2_with fail
        go_ret
        exact ⟨rfl, HB3.out⟩
      · have h24I : ¬ (s.size : Int) < 24 := by omega
        rw [decide_eq_false (show ¬ s.size < 24 by omega)] at hm
        have HLX := Lib.hid hm
        clear hm
        go_wp2_with fail
        have hl2 := HL.out (s ++ ⟨#[UInt8.ofNat c.toNat]⟩) (w2.alloc (.cells #[.int .u8 c] 5))
        rw [HLX.out] at hl2
        refine hl2.mono ?_
        clear hl2
        rintro e w3 ⟨rfl, hB3⟩
        have HB3 := Lib.hid (HB2.out.trans ((((Below.refl _ w2).alloc (Nat.le_refl _) (.cells #[.int .u8 c] 5)).trans (hB3.mono (by simp))).mono HB2.out.size))
        clear hB3 hrun
        go_wp2_with fail
        go_ret
        exact ⟨(show Ending.returned (Value.bool (!decide ((s.size : Int) < 24))) = _ by rw [decide_eq_false (by omega)]; rfl), HB3.out⟩
    · have hf : letN (UInt8.ofNat c.toNat).toNat = true := by
        rw [UInt8.toNat_ofNat_of_lt' (show c.toNat < 256 by have := HC.out; omega)]
        unfold letN
        rw [decide_eq_true_iff]
        have := HC.out
        omega
      have e1 : (c == 46) = false := by rw [beq_eq_false_iff_ne, ne_eq]; omega
      have e2 : (c == 45) = false := by rw [beq_eq_false_iff_ne, ne_eq]; omega
      have e3 : 97 ≤ c := by omega
      have e4 : c ≤ 122 := by omega
      rw [hf, Bool.true_and] at hm
      clear hf hcc
      rcases Nat.lt_or_ge s.size 24 with h24 | h24
      · have h24I : (s.size : Int) < 24 := by omega
        rw [decide_eq_true h24] at hm
        have HLX := Lib.hid hm
        clear hm
        go_wp2_with fail
        have hl2 := HL.out (s ++ ⟨#[UInt8.ofNat c.toNat]⟩) (w2.alloc (.cells #[.int .u8 c] 5))
        rw [HLX.out] at hl2
        refine hl2.mono ?_
        clear hl2
        rintro e w3 ⟨rfl, hB3⟩
        have HB3 := Lib.hid (HB2.out.trans ((((Below.refl _ w2).alloc (Nat.le_refl _) (.cells #[.int .u8 c] 5)).trans (hB3.mono (by simp))).mono HB2.out.size))
        clear hB3 hrun
        go_wp2_with fail
        go_ret
        exact ⟨rfl, HB3.out⟩
      · have h24I : ¬ (s.size : Int) < 24 := by omega
        rw [decide_eq_false (show ¬ s.size < 24 by omega)] at hm
        have HLX := Lib.hid hm
        clear hm
        go_wp2_with fail
        have hl2 := HL.out (s ++ ⟨#[UInt8.ofNat c.toNat]⟩) (w2.alloc (.cells #[.int .u8 c] 5))
        rw [HLX.out] at hl2
        refine hl2.mono ?_
        clear hl2
        rintro e w3 ⟨rfl, hB3⟩
        have HB3 := Lib.hid (HB2.out.trans ((((Below.refl _ w2).alloc (Nat.le_refl _) (.cells #[.int .u8 c] 5)).trans (hB3.mono (by simp))).mono HB2.out.size))
        clear hB3 hrun
        go_wp2_with fail
        go_ret
        exact ⟨(show Ending.returned (Value.bool (!decide ((s.size : Int) < 24))) = _ by rw [decide_eq_false (by omega)]; rfl), HB3.out⟩
    · have hf : letN (UInt8.ofNat c.toNat).toNat = false := by
        rw [UInt8.toNat_ofNat_of_lt' (show c.toNat < 256 by have := HC.out; omega)]
        unfold letN
        rw [decide_eq_false_iff_not]
        have := HC.out
        omega
      have e1 : (c == 46) = false := by rw [beq_eq_false_iff_ne, ne_eq]; omega
      have e2 : (c == 45) = false := by rw [beq_eq_false_iff_ne, ne_eq]; omega
      have e3 : 97 ≤ c := by omega
      have e4 : ¬ c ≤ 122 := by omega
      have e5 : 48 ≤ c := by omega
      have e6 : ¬ c ≤ 57 := by omega
      rw [hf, Bool.false_and] at hm
      clear hf hcc
      have HLX := Lib.hid hm
      clear hm
      go_wp2_with fail
      have hl2 := HL.out (s ++ ⟨#[UInt8.ofNat c.toNat]⟩) (w2.alloc (.cells #[.int .u8 c] 5))
      rw [HLX.out] at hl2
      refine hl2.mono ?_
      clear hl2
      rintro e w3 ⟨rfl, hB3⟩
      have HB3 := Lib.hid (HB2.out.trans ((((Below.refl _ w2).alloc (Nat.le_refl _) (.cells #[.int .u8 c] 5)).trans (hB3.mono (by simp))).mono HB2.out.size))
      clear hB3 hrun
      go_wp2_with fail
      go_ret
      exact ⟨rfl, HB3.out⟩
    · have hf : letN (UInt8.ofNat c.toNat).toNat = true := by
        rw [UInt8.toNat_ofNat_of_lt' (show c.toNat < 256 by have := HC.out; omega)]
        unfold letN
        rw [decide_eq_true_iff]
        have := HC.out
        omega
      have e1 : (c == 46) = false := by rw [beq_eq_false_iff_ne, ne_eq]; omega
      have e2 : (c == 45) = false := by rw [beq_eq_false_iff_ne, ne_eq]; omega
      have e3 : ¬ 97 ≤ c := by omega
      have e5 : 48 ≤ c := by omega
      have e6 : c ≤ 57 := by omega
      rw [hf, Bool.true_and] at hm
      clear hf hcc
      rcases Nat.lt_or_ge s.size 24 with h24 | h24
      · have h24I : (s.size : Int) < 24 := by omega
        rw [decide_eq_true h24] at hm
        have HLX := Lib.hid hm
        clear hm
        go_wp2_with fail
        have hl2 := HL.out (s ++ ⟨#[UInt8.ofNat c.toNat]⟩) (w2.alloc (.cells #[.int .u8 c] 5))
        rw [HLX.out] at hl2
        refine hl2.mono ?_
        clear hl2
        rintro e w3 ⟨rfl, hB3⟩
        have HB3 := Lib.hid (HB2.out.trans ((((Below.refl _ w2).alloc (Nat.le_refl _) (.cells #[.int .u8 c] 5)).trans (hB3.mono (by simp))).mono HB2.out.size))
        clear hB3 hrun
        go_wp2_with fail
        go_ret
        exact ⟨rfl, HB3.out⟩
      · have h24I : ¬ (s.size : Int) < 24 := by omega
        rw [decide_eq_false (show ¬ s.size < 24 by omega)] at hm
        have HLX := Lib.hid hm
        clear hm
        go_wp2_with fail
        have hl2 := HL.out (s ++ ⟨#[UInt8.ofNat c.toNat]⟩) (w2.alloc (.cells #[.int .u8 c] 5))
        rw [HLX.out] at hl2
        refine hl2.mono ?_
        clear hl2
        rintro e w3 ⟨rfl, hB3⟩
        have HB3 := Lib.hid (HB2.out.trans ((((Below.refl _ w2).alloc (Nat.le_refl _) (.cells #[.int .u8 c] 5)).trans (hB3.mono (by simp))).mono HB2.out.size))
        clear hB3 hrun
        go_wp2_with fail
        go_ret
        exact ⟨(show Ending.returned (Value.bool (!decide ((s.size : Int) < 24))) = _ by rw [decide_eq_false (by omega)]; rfl), HB3.out⟩
    · have hf : letN (UInt8.ofNat c.toNat).toNat = false := by
        rw [UInt8.toNat_ofNat_of_lt' (show c.toNat < 256 by have := HC.out; omega)]
        unfold letN
        rw [decide_eq_false_iff_not]
        have := HC.out
        omega
      have e1 : (c == 46) = false := by rw [beq_eq_false_iff_ne, ne_eq]; omega
      have e2 : (c == 45) = false := by rw [beq_eq_false_iff_ne, ne_eq]; omega
      have e3 : ¬ 97 ≤ c := by omega
      have e5 : 48 ≤ c := by omega
      have e6 : ¬ c ≤ 57 := by omega
      rw [hf, Bool.false_and] at hm
      clear hf hcc
      have HLX := Lib.hid hm
      clear hm
      go_wp2_with fail
      have hl2 := HL.out (s ++ ⟨#[UInt8.ofNat c.toNat]⟩) (w2.alloc (.cells #[.int .u8 c] 5))
      rw [HLX.out] at hl2
      refine hl2.mono ?_
      clear hl2
      rintro e w3 ⟨rfl, hB3⟩
      have HB3 := Lib.hid (HB2.out.trans ((((Below.refl _ w2).alloc (Nat.le_refl _) (.cells #[.int .u8 c] 5)).trans (hB3.mono (by simp))).mono HB2.out.size))
      clear hB3 hrun
      go_wp2_with fail
      go_ret
      exact ⟨rfl, HB3.out⟩
    · have hf : letN (UInt8.ofNat c.toNat).toNat = false := by
        rw [UInt8.toNat_ofNat_of_lt' (show c.toNat < 256 by have := HC.out; omega)]
        unfold letN
        rw [decide_eq_false_iff_not]
        have := HC.out
        omega
      have e1 : (c == 46) = false := by rw [beq_eq_false_iff_ne, ne_eq]; omega
      have e2 : (c == 45) = false := by rw [beq_eq_false_iff_ne, ne_eq]; omega
      have e3 : ¬ 97 ≤ c := by omega
      have e5 : ¬ 48 ≤ c := by omega
      rw [hf, Bool.false_and] at hm
      clear hf hcc
      have HLX := Lib.hid hm
      clear hm
      go_wp2_with fail
      have hl2 := HL.out (s ++ ⟨#[UInt8.ofNat c.toNat]⟩) (w2.alloc (.cells #[.int .u8 c] 5))
      rw [HLX.out] at hl2
      refine hl2.mono ?_
      clear hl2
      rintro e w3 ⟨rfl, hB3⟩
      have HB3 := Lib.hid (HB2.out.trans ((((Below.refl _ w2).alloc (Nat.le_refl _) (.cells #[.int .u8 c] 5)).trans (hB3.mono (by simp))).mono HB2.out.size))
      clear hB3 hrun
      go_wp2_with fail
      go_ret
      exact ⟨rfl, HB3.out⟩
-- CASES}
end Go.Proofs.YtijfedahhgcfpaaDoor
