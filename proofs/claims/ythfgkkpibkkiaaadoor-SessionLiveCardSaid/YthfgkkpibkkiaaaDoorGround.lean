/- What a row of chapter 20 gives of the library's own variables. -/
import Derived.Test.YthfgkkpibkkiaaaDoorSessF
import Derived.Test.YthfgkkpibkkiaaaDoorRows
import Derived.Stop.LaidErr
import Derived.Lib.LaidTab
import Derived.LaidSub
import Derived.LaidMore
import Derived.Lay
import Derived.Shelf.Vars
set_option linter.unusedVariables false
namespace Go.Proofs.YthfgkkpibkkiaaaDoor
open Go.RowKit

theorem gES : Tryd.prog.globalNamed "strconv.ErrSyntax" = some 1 := by kernel_rfl
theorem gESType : (Tryd.prog.globals[1]?).map (·.type) = some 69 := by kernel_rfl
theorem gER : Tryd.prog.globalNamed "strconv.ErrRange" = some 2 := by kernel_rfl
theorem gERType : (Tryd.prog.globals[2]?).map (·.type) = some 69 := by kernel_rfl
theorem cellsES : Tryd.prog.cellsOf 123 = 1 := by kernel_rfl
theorem cellsS : Tryd.prog.cellsOf 9 = 1 := by kernel_rfl
theorem starES : "*" ++ "errors.errorString" = "*errors.errorString" := by decide
theorem rowES (u : TypeId) (h : Tryd.prog.typeName? 3 u = some "*errors.errorString") : u = 121 :=
  typeName_ptr_named (nm := "errors.errorString") (by rw [starES]; kernel_rfl) (by kernel_rfl) (by decide) u (by rw [starES]; exact h)
theorem cell0_of (W : World) (h : W.ShapedOpen Tryd.prog) : ∃ m, W.cell? ⟨0, 0, none⟩ = some (.int .i64 m) := Go.Proofs.cell_of_shapedOpen_int (zero := #[.int .i64 0]) (t := 3) h (of_decide_eq_true (by kernel_rfl)) (by kernel_rfl) rfl (by kernel_rfl) (by kernel_rfl) Tryd.underlying3
theorem tabG : Tryd.prog.globalNamed "internal/strconv.uint64pow10" = some 3 := by kernel_rfl
theorem tabT : (Tryd.prog.globals[3]?).map (·.type) = some 116 := by kernel_rfl
set_option maxRecDepth 100000 in
theorem ground_of (W : World) (hsh : W.ShapedOpen Tryd.prog) (h : laidMetH Tryd.prog Rows.sessionBytesRow.laid W) : Ground W := by
  rw [MakeChecks.laidMetH_plain _ _ _ (by kernel_rfl)] at h
  have h1 : laidMet Tryd.prog (("internal/strconv.uint64pow10", Lib.tabData .u64 Lib.pow10Tab) :: [("strconv.ErrRange", Rows.laid_strconv_ErrRange), ("strconv.ErrSyntax", Rows.laid_strconv_ErrSyntax)]) W := (laidMet.tail (laidMet.tail h))
  have h2 : laidMet Tryd.prog [("strconv.ErrRange", Rows.laid_strconv_ErrRange), ("strconv.ErrSyntax", Rows.laid_strconv_ErrSyntax)] W := h1.tail
  have h3 : laidMet Tryd.prog [("strconv.ErrSyntax", Rows.laid_strconv_ErrSyntax)] W := h2.tail
  obtain ⟨a0, s0, hv0, -, -, -⟩ := laid_sentinel h2 gER gERType Tryd.underlying69 rowES Tryd.underlying121 Tryd.underlying123 rfl rfl Tryd.underlying9 cellsES cellsS
  obtain ⟨a1, s1, hv1, -, -, -⟩ := laid_sentinel h3 gES gESType Tryd.underlying69 rowES Tryd.underlying121 Tryd.underlying123 rfl rfl Tryd.underlying9 cellsES cellsS
  refine ⟨cell0_of W hsh, ⟨.iface 121 (.pointer (some a1)), ?_, .inr ⟨_, _, rfl⟩⟩, ⟨.iface 121 (.pointer (some a0)), ?_, .inr ⟨_, _, rfl⟩⟩, ?_⟩
  · have h0 := World.var?_cell gES hv1 0
    simpa using h0
  · have h0 := World.var?_cell gER hv0 0
    simpa using h0
  · exact Lib.tabIs_of_head tabG tabT Tryd.underlying116 Tryd.underlying94 (by kernel_rfl) (by kernel_rfl) h1
end Go.Proofs.YthfgkkpibkkiaaaDoor
