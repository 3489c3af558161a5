/- The live question of chapter 05's laws. -/
import Derived.Test.YtmhpnidhokcaeaaDoorLinesC
set_option linter.unusedVariables false
set_option linter.unusedSimpArgs false
namespace Go.Proofs.YtmhpnidhokcaeaaDoor
open Go Go.RowKit Go.Proofs.YtmhpnidhokcaeaaDoorW.PrintWords Go.Proofs.YtmhpnidhokcaeaaDoorW.PrintLast

theorem below_then {B : Nat} {a b c : World} (h : Below B a b) (hB : B ≤ b.heap.size) (k : Below b.heap.size b c) : Below B a c := h.trans (k.mono hB)
theorem beq_lit (s : ByteArray) (l : List UInt8) : (s.toList == l) = decide (bl s = l) := by
  rw [ByteArray.toList_eq, Bool.eq_iff_iff, decide_eq_true_iff, beq_iff_eq]
theorem tok_lit : tokOf ⟨#[120, 49, 43, 61, 121]⟩ = [⟨#[120, 49]⟩, ⟨#[43, 61]⟩, ⟨#[121]⟩] := by
  have h : pieces [120, 49, 43, 61, 121] = [([120, 49], true), ([43, 61], false), ([121], true)] := by decide
  unfold tokOf piecesB
  rw [show (⟨#[120, 49, 43, 61, 121]⟩ : ByteArray).data.toList = [120, 49, 43, 61, 121] from rfl, h]
  rfl
theorem repl_lit : replB ⟨#[120, 49, 43, 61, 121, 32, 120]⟩ ⟨#[120, 49]⟩ ⟨#[122]⟩ = ⟨#[122, 43, 61, 121, 32, 120]⟩ := by
  have h : replaced [120, 49, 43, 61, 121, 32, 120] [120, 49] [122] = [122, 43, 61, 121, 32, 120] := by decide
  unfold replB
  rw [show bl ⟨#[120, 49, 43, 61, 121, 32, 120]⟩ = [120, 49, 43, 61, 121, 32, 120] from rfl, show bl ⟨#[120, 49]⟩ = [120, 49] from rfl, show bl ⟨#[122]⟩ = [122] from rfl, h]
theorem split_lit1 : splitOf ⟨#[97, 10, 10, 98, 10]⟩ = ([⟨#[97]⟩, ⟨#[]⟩, ⟨#[98]⟩], true) := by
  have h : linesOf [97, 10, 10, 98, 10] = ([[97], [], [98]], []) := by decide
  unfold splitOf
  rw [show bl ⟨#[97, 10, 10, 98, 10]⟩ = [97, 10, 10, 98, 10] from rfl, h]
  rfl
theorem split_lit2 : splitOf ⟨#[97]⟩ = ([], false) := by
  have h : linesOf [97] = ([], [97]) := by decide
  unfold splitOf
  rw [show bl ⟨#[97]⟩ = [97] from rfl, h]
  rfl
theorem join_lit : ba (joinOf [⟨#[97]⟩, ⟨#[]⟩, ⟨#[98]⟩]) = ⟨#[97, 10, 10, 98, 10]⟩ := rfl
set_option maxRecDepth 100000 in
set_option maxHeartbeats 8000000 in
theorem head_any (w : World) (hm : Cell0 w) : Calls Tryd.prog 9 #[] w fun e w' => e = .returned (.bool true) ∧ Below w.heap.size w w' := by
  have hs1 := fun w hm => split_n ⟨#[97, 10, 10, 98, 10]⟩ w hm (by decide)
  have hs2 := fun w hm => split_n ⟨#[97]⟩ w hm (by decide)
  have ht := fun w => tokens_n ⟨#[120, 49, 43, 61, 121]⟩ w (by decide)
  have hr := fun w => replace_n ⟨#[120, 49, 43, 61, 121, 32, 120]⟩ ⟨#[120, 49]⟩ ⟨#[122]⟩ w (by decide) (by decide)
  have hk1 := fun w => token_n ⟨#[97, 95, 57]⟩ w (by decide)
  have hk2 := fun w => token_n ⟨#[]⟩ w (by decide)
  rw [split_lit1] at hs1
  rw [split_lit2] at hs2
  rw [tok_lit] at ht
  rw [repl_lit] at hr
  rw [show tokenB (bl ⟨#[97, 95, 57]⟩) = true from by decide] at hk1
  rw [show tokenB (bl ⟨#[]⟩) = false from by decide] at hk2
  have HS1 := Lib.hid hs1
  have HS2 := Lib.hid hs2
  have HT := Lib.hid ht
  have HR := Lib.hid hr
  have HK1 := Lib.hid hk1
  have HK2 := Lib.hid hk2
  have HM := Lib.hid hm
  clear hs1 hs2 ht hr hk1 hk2 hm
  have s1 : ((⟨#[97, 10, 10, 98, 10]⟩ : ByteArray).toList == [97, 10, 10, 98, 10]) = true := by rw [ByteArray.toList_eq]; rfl
  have s2 : ((⟨#[122, 43, 61, 121, 32, 120]⟩ : ByteArray).toList == [122, 43, 61, 121, 32, 120]) = true := by rw [ByteArray.toList_eq]; rfl
  have s3 : ((⟨#[43, 61]⟩ : ByteArray).toList == [43, 61]) = true := by rw [ByteArray.toList_eq]; rfl
  have s4 : (⟨#[]⟩ : ByteArray).toList.isEmpty = true := by rw [ByteArray.toList_eq]; rfl
  go_enter Tryd.func9, Tryd.ntmps9
  go_wp2_with fail
  refine (HS1.out w HM.out).mono ?_
  rintro e w1 ⟨A1, n1, c1, rfl, hn, hc1, hC1, hB⟩
  obtain rfl : n1 = 3 := hn.symm
  clear hn
  have HB1 := Lib.hid hB
  have HC1 := Lib.hid hC1
  clear hB hC1
  go_wp2_with fail
  refine (HS2.out w1 (HM.out.below HB1.out)).mono ?_
  rintro e w2 ⟨A2, n2, c2, rfl, hn, hc2, hC2, hB⟩
  obtain rfl : n2 = 0 := hn.symm
  clear hn
  have HB2 := Lib.hid (below_then HB1.out HB1.out.size hB)
  have HC1 := Lib.hid (Kd.C_below HC1.out hB)
  clear hB hC2
  go_wp2_with fail
  refine (HT.out w2).mono ?_
  rintro e w3 ⟨A3, n3, c3, rfl, hn, hc3, hC3, hB⟩
  obtain rfl : n3 = 3 := hn.symm
  clear hn
  have HB3 := Lib.hid (below_then HB2.out HB2.out.size hB)
  have HC1 := Lib.hid (Kd.C_below HC1.out hB)
  have HC3 := Lib.hid hC3
  clear hB hC3
  obtain ⟨ad1, rfl, ca1⟩ := Kd.at_string HC1.out 1 (by decide) (by decide)
  obtain ⟨ad3, rfl, ca3⟩ := Kd.at_string HC3.out 1 (by decide) (by decide)
  have ca1' : w3.cell? ⟨ad1.block, ad1.off + 1, none⟩ = some (.string ⟨#[]⟩) := ca1
  have ca3' : w3.cell? ⟨ad3.block, ad3.off + 1, none⟩ = some (.string ⟨#[43, 61]⟩) := ca3
  clear ca1 ca3
  go_wp2_with fail
  refine (join_any (some ad1) 3 c1 _ rfl w3 HC1.out (by decide) (by decide)).mono ?_
  rw [join_lit]
  rintro e w4 ⟨rfl, hB⟩
  have HB4 := Lib.hid (below_then HB3.out HB3.out.size hB)
  obtain ⟨ad, ead, ca⟩ := Kd.at_string (Kd.C_below HC3.out hB) 1 (by decide) (by decide)
  obtain rfl : ad3 = ad := Option.some.inj ead
  have ca4 : w4.cell? ⟨ad3.block, ad3.off + 1, none⟩ = some (.string ⟨#[43, 61]⟩) := ca
  clear hB ca1' ca3' ca ead
  go_wp2_with fail
  refine (HR.out w4).mono ?_
  rintro e w5 ⟨rfl, hB⟩
  have HB5 := Lib.hid (below_then HB4.out HB4.out.size hB)
  clear hB ca4
  go_wp2_with fail
  refine (HK1.out w5).mono ?_
  rintro e w6 ⟨rfl, hB⟩
  have HB6 := Lib.hid (below_then HB5.out HB5.out.size hB)
  clear hB
  go_wp2_with fail
  refine (HK2.out w6).mono ?_
  rintro e w7 ⟨rfl, hB⟩
  have HB7 := Lib.hid (below_then HB6.out HB6.out.size hB)
  clear hB
  go_wp2_with fail
  go_ret
  exact ⟨rfl, HB7.out⟩
end Go.Proofs.YtmhpnidhokcaeaaDoor
