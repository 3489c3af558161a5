/- Walks of chapter 05: a byte of a token. -/
import Derived.Test.YtmhpnidhokcaeaaDoorLinesA
import Derived.Test.YtmhpnidhokcaeaaDoorProg
import Derived.WalkKit
import Derived.WalkSpells
import Derived.WalkLawsBesides
import Derived.Below
import Derived.Lib.Hide
set_option linter.unusedVariables false
set_option linter.unusedSimpArgs false
namespace Go.Proofs.YtmhpnidhokcaeaaDoor
open Go.RowKit

set_option maxRecDepth 1000000 in
theorem or_all : ∀ n : Fin 256, ((97 ≤ bits .or .u8 ((n.val : Nat) : Int) 32 ∧ bits .or .u8 ((n.val : Nat) : Int) 32 ≤ 122) ↔ ((97 ≤ n.val ∧ n.val ≤ 122) ∨ (65 ≤ n.val ∧ n.val ≤ 90))) := by decide
theorem or_low (b : UInt8) : (97 ≤ bits .or .u8 (b.toNat : Int) 32 ∧ bits .or .u8 (b.toNat : Int) 32 ≤ 122) ↔ ((97 ≤ b.toNat ∧ b.toNat ≤ 122) ∨ (65 ≤ b.toNat ∧ b.toNat ≤ 90)) := or_all ⟨b.toNat, b.toNat_lt⟩
set_option maxRecDepth 100000 in
theorem in_any (b : UInt8) (w : World) :
    Calls Tryd.prog 25 #[.int .u8 (b.toNat : Int)] w fun e w' => e = .returned (.bool (inB b)) ∧ w' = w := by
  obtain ⟨r, hr⟩ : ∃ r, r = inB b := ⟨_, rfl⟩
  rw [← hr]
  have HR := Lib.hid hr
  clear hr
  go_enter Tryd.func25, Tryd.ntmps25
  go_wp2_with fail
  all_goals go_ret
  all_goals
    refine ⟨?_, rfl⟩
    rw [HR.out]
    have hl := or_low b
    unfold inB inN
    show Ending.returned (Value.bool _) = _
    congr 2
    rw [Bool.eq_iff_iff]
    generalize bits .or .u8 (b.toNat : Int) 32 = y at *
    simp
    try omega
end Go.Proofs.YtmhpnidhokcaeaaDoor
