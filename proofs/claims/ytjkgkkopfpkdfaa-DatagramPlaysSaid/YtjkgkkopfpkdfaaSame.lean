/- Two packets that read alike are the same to the reference's Same. -/
import Derived.Test.YtjkgkkopfpkdfaaHead
set_option linter.unusedVariables false
set_option linter.unusedSimpArgs false
namespace Go.Proofs.Ytjkgkkopfpkdfaa
open Go.RowKit Go.Conc Go.Proofs.YtjkgkkopfpkdfaaW.PrintWords Go.Proofs.YtjkgkkopfpkdfaaW.PrintLast

set_option maxHeartbeats 1000000 in
theorem same_true (p : Pkt) (A A' : Option Addr) (c c' : Nat) (w : World) (h : Kd.C (Kd.int .u8) w A p.d.length p.d) (h' : Kd.C (Kd.int .u8) w A' p.d.length p.d) :
    Calls Try.prog 12 #[.agg #[.int .i64 p.f, .int .i64 p.t, .slice A p.d.length c], .agg #[.int .i64 p.f, .int .i64 p.t, .slice A' p.d.length c']] w fun e w' =>
      e = .returned (.bool true) ∧ Below w.heap.size w w' := by
  have hb : Below w.heap.size w ((w.alloc (.cells #[.int .i64 p.f, .int .i64 p.t, .slice A p.d.length c] 33)).alloc (.cells #[.int .i64 p.f, .int .i64 p.t, .slice A' p.d.length c'] 33)) :=
    ((Below.refl _ _).alloc (Nat.le_refl _) _).alloc (by simp) _
  have s1 := Kd.C_string (P := Try.prog) (c := c) Try.underlying31 Try.underlying5 Try.underlying9 (Kd.C_below h hb)
  have s2 := Kd.C_string (P := Try.prog) (c := c') Try.underlying31 Try.underlying5 Try.underlying9 (Kd.C_below h' hb)
  have HB := Lib.hid hb
  clear h h' hb
  go_enter Try.func12, Try.ntmps12
  go_wp2
  go_ret
  exact ⟨rfl, HB.out⟩
end Go.Proofs.Ytjkgkkopfpkdfaa
