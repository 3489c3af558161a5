/- The reference's constants, handed back. -/
import Derived.Test.YtbnkpfflfiehjaaShaC
set_option linter.unusedVariables false
set_option linter.unusedSimpArgs false
namespace Go.Proofs.Ytbnkpfflfiehjaa
open Go.RowKit Go.Proofs.YtbnkpfflfiehjaaW.PrintWords Go.Proofs.YtbnkpfflfiehjaaW.PrintLast

set_option maxRecDepth 100000 in
set_option maxHeartbeats 4000000 in
theorem constants_any (w : World) :
    Calls Try.prog 17 #[] w fun e w' => e = .returned (.agg (wcells K64)) ∧ Below w.heap.size w w' := by
  go_enter Try.func17, Try.ntmps17
  go_wp2_with (refine wpList_store_row rfl (.tmp 0) (.tmp 1) 42 rfl w.heap.size rfl (wcells K64) (by rfl) 42 (wcells (List.replicate 64 0#32)) (blk_new w _) (by rfl) (by rfl) (wcells_one _) rfl ?_)
  refine bodyPost_ret (results_row (P := Try.prog) (fn := Try.f17) (a := 0) (ty := 42) rfl _ w.heap.size rfl 42 (wcells K64) (0, 0) _ (setRow_heap _ _ (wcells (List.replicate 64 0#32)) _ _ _ (blk_new w _)) (by rfl) rfl (by rfl)) rfl ⟨rfl, below_setRow ((Below.refl _ _).alloc (Nat.le_refl _) _) (Nat.le_refl _) _⟩
end Go.Proofs.Ytbnkpfflfiehjaa
