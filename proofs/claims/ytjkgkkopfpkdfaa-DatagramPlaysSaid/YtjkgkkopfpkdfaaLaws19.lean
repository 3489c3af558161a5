import Derived.Test.YtjkgkkopfpkdfaaFull
import Derived.Test.YtjkgkkopfpkdfaaOpen
set_option linter.unusedVariables false
namespace Go.Proofs.Ytjkgkkopfpkdfaa
open Go.RowKit Go.Proofs.YtjkgkkopfpkdfaaW.PrintWords

theorem opens_bytes : Opens Try.prog 31 (Kd.slice 5 (Kd.int .u8)) (fun xs => xs.length * 1 ≤ 140737488351232 ∧ ∀ x ∈ xs, (Lit.int .u8 x).wf = true) := Opens.slice Try.underlying31 (by kernel_rfl) (B := 1) (by kernel_rfl) (Opens.int Try.underlying5)
theorem opens_pkt : Opens Try.prog 33 kPkt (fun x => (Lit.int .i64 x.f).wf = true ∧ (Lit.int .i64 x.t).wf = true ∧ x.d.length * 1 ≤ 140737488351232 ∧ ∀ b ∈ x.d, (Lit.int .u8 b).wf = true) :=
  Opens.iso (Opens.struct Try.underlying33 (by kernel_rfl) (OpensF.cons rfl (by kernel_rfl) (Opens.int Try.underlying3) (OpensF.cons rfl (by kernel_rfl) (Opens.int Try.underlying3) (OpensF.one rfl (by kernel_rfl) opens_bytes))))
    (fun x : Pkt => (x.f, x.t, x.d)) (fun p => ⟨p.1, p.2.1, p.2.2⟩) (fun _ => rfl)

theorem pkt_open {w : World} {x : Pkt} {cs : Array Value} (h : kPkt.K w x cs.toList) : ∃ A c, cs = #[.int .i64 x.f, .int .i64 x.t, .slice A x.d.length c] ∧ x.d.length ≤ c ∧ Kd.C (Kd.int .u8) w A x.d.length x.d := by
  obtain ⟨_, _, e, rfl, ⟨_, _, rfl, rfl, ⟨A, c, rfl, l, g⟩⟩⟩ := h
  exact ⟨A, c, by cases cs; simpa using e, l, g⟩

theorem full_law (w : World) (x : Pkt) (cs : Array Value) (h : kPkt.K w x cs.toList) (g : (Lit.int .i64 x.f).wf = true ∧ (Lit.int .i64 x.t).wf = true ∧ x.d.length * 1 ≤ 140737488351232 ∧ ∀ b ∈ x.d, (Lit.int .u8 b).wf = true) (a : Int) (ga : (Lit.int .u8 a).wf = true) :
    Calls Try.prog 5 #[.agg cs, .int .u8 a] w fun e w' => e = .returned (.bool true) ∧ Below w.heap.size w w' := by
  obtain ⟨A, c, rfl, l, hr⟩ := pkt_open h
  have hb : 0 ≤ a ∧ a ≤ 255 := by simpa [Lit.wf, IntKind.min, IntKind.max, IntKind.signed, IntKind.bits] using ga
  exact full_true x.f x.t A c x.d a w hr l (by omega) hb.1 hb.2
end Go.Proofs.Ytjkgkkopfpkdfaa
