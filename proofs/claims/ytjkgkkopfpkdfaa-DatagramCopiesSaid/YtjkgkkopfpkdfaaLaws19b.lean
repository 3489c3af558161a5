/- DatagramCopies' contract, for any packet that can be read as data. -/
import Derived.Test.YtjkgkkopfpkdfaaCopies
import Derived.Test.YtjkgkkopfpkdfaaLaws19
set_option linter.unusedVariables false
namespace Go.Proofs.Ytjkgkkopfpkdfaa
open Go.RowKit Go.Proofs.YtjkgkkopfpkdfaaW.PrintWords

theorem copies_law (w : World) (x : Pkt) (cs : Array Value) (h : kPkt.K w x cs.toList) (g : (Lit.int .i64 x.f).wf = true ∧ (Lit.int .i64 x.t).wf = true ∧ x.d.length * 1 ≤ 140737488351232 ∧ ∀ b ∈ x.d, (Lit.int .u8 b).wf = true) (a : Int) (ga : (Lit.int .u8 a).wf = true) :
    Calls Try.prog 6 #[.agg cs, .int .u8 a] w fun e w' => e = .returned (.bool true) ∧ Below w.heap.size w w' := by
  obtain ⟨A, c, rfl, l, hr⟩ := pkt_open h
  have hb : 0 ≤ a ∧ a ≤ 255 := by simpa [Lit.wf, IntKind.min, IntKind.max, IntKind.signed, IntKind.bits] using ga
  exact copies_true x.f x.t A c x.d a w hr l (by omega) hb.1 hb.2
end Go.Proofs.Ytjkgkkopfpkdfaa
