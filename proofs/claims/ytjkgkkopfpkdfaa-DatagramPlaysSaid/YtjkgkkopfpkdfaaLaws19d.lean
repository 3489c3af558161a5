/- DatagramPlays' contract, for any row of calls that can be read as data. -/
import Derived.Test.YtjkgkkopfpkdfaaPlaysM
import Derived.Test.YtjkgkkopfpkdfaaLaws19
set_option linter.unusedVariables false
namespace Go.Proofs.Ytjkgkkopfpkdfaa
open Go.RowKit Go.Proofs.YtjkgkkopfpkdfaaW.PrintWords

def goodOp (x : Op) : Prop := (Lit.int .i64 x.what).wf = true ∧ ((Lit.int .i64 x.p.f).wf = true ∧ (Lit.int .i64 x.p.t).wf = true ∧ x.p.d.length * 1 ≤ 140737488351232 ∧ ∀ b ∈ x.p.d, (Lit.int .u8 b).wf = true) ∧ (Lit.int .i64 x.at_).wf = true
theorem opens_op : Opens Try.prog 35 kOp goodOp :=
  Opens.iso (Opens.struct Try.underlying35 (by kernel_rfl) (OpensF.cons rfl (by kernel_rfl) (Opens.int Try.underlying3) (OpensF.cons rfl (by kernel_rfl) opens_pkt (OpensF.one rfl (by kernel_rfl) (Opens.int Try.underlying3)))))
    (fun x : Op => (x.what, x.p, x.at_)) (fun p => ⟨p.1, p.2.1, p.2.2⟩) (fun _ => rfl)
theorem opens_ops : Opens Try.prog 22 (Kd.slice 35 kOp) (fun xs => xs.length * 56 ≤ 140737488351232 ∧ ∀ x ∈ xs, goodOp x) :=
  Opens.slice Try.underlying22 (by kernel_rfl) (B := 56) (by kernel_rfl) opens_op
theorem plays_law (w : World) (x : List Op) (A : Option Addr) (n c : Nat) (h : (Kd.slice 35 kOp).K w x [.slice A n c]) (g : x.length * 56 ≤ 140737488351232 ∧ ∀ y ∈ x, goodOp y) :
    Calls Try.prog 3 #[.slice A n c] w fun e w' => e = .returned (.bool true) ∧ Below w.heap.size w w' := by
  obtain ⟨A', c', e, l, hr⟩ := h
  obtain ⟨rfl, rfl, rfl⟩ : A = A' ∧ n = x.length ∧ c = c' := by injection e with e _; injection e with a b c; exact ⟨a, b, c⟩
  exact plays_true A c x w hr (fun p hp => by have := (g.2 p hp).2.1.2.2.1; omega) (by omega)
end Go.Proofs.Ytjkgkkopfpkdfaa
