/- DatagramKeeps' contract, for any row of packets that can be read as data. -/
import Derived.Test.YtjkgkkopfpkdfaaKeeps
import Derived.Test.YtjkgkkopfpkdfaaLaws19
set_option linter.unusedVariables false
namespace Go.Proofs.Ytjkgkkopfpkdfaa
open Go.RowKit Go.Proofs.YtjkgkkopfpkdfaaW.PrintWords

theorem opens_pkts : Opens Try.prog 27 (Kd.slice 33 kPkt) (fun xs => xs.length * 40 ≤ 140737488351232 ∧ ∀ x : Pkt, x ∈ xs → (Lit.int .i64 x.f).wf = true ∧ (Lit.int .i64 x.t).wf = true ∧ x.d.length * 1 ≤ 140737488351232 ∧ ∀ b ∈ x.d, (Lit.int .u8 b).wf = true) :=
  Opens.slice Try.underlying27 (by kernel_rfl) (B := 40) (by kernel_rfl) opens_pkt
theorem keeps_law (w : World) (x : List Pkt) (A : Option Addr) (n c : Nat) (h : (Kd.slice 33 kPkt).K w x [.slice A n c]) (g : x.length * 40 ≤ 140737488351232 ∧ ∀ y : Pkt, y ∈ x → (Lit.int .i64 y.f).wf = true ∧ (Lit.int .i64 y.t).wf = true ∧ y.d.length * 1 ≤ 140737488351232 ∧ ∀ b ∈ y.d, (Lit.int .u8 b).wf = true) (a : Int) (ga : (Lit.int .u8 a).wf = true) :
    Calls Try.prog 4 #[.slice A n c, .int .u8 a] w fun e w' => e = .returned (.bool true) ∧ Below w.heap.size w w' := by
  obtain ⟨A', c', e, l, hr⟩ := h
  obtain ⟨rfl, rfl, rfl⟩ : A = A' ∧ n = x.length ∧ c = c' := by injection e with e _; injection e with a b c; exact ⟨a, b, c⟩
  have hb : 0 ≤ a ∧ a ≤ 255 := by simpa [Lit.wf, IntKind.min, IntKind.max, IntKind.signed, IntKind.bits] using ga
  exact keeps_true A c x a w hr (fun p hp => by have := (g.2 p hp).2.2.1; omega) hb.1 hb.2
end Go.Proofs.Ytjkgkkopfpkdfaa
