import Derived.Test.YtbfpmlblnfablaaProg
import Derived.Test.YtbfpmlblnfablaaWWords
import Derived.WalkSpells
import Derived.WalkLawsBesides
import Derived.Lib.LazyBuf
import Derived.Lib.Hide
set_option linter.unusedVariables false
set_option linter.unusedSimpArgs false
namespace Go.Proofs.Ytbfpmlblnfablaa
open Go.RowKit Go.Proofs.YtbfpmlblnfablaaW.PrintWords

theorem infoU8 : (Try.prog.info? 5).map (fun i => (i.zero, i.size, i.bytes)) = some (some (.int .u8 0), 1, 1) := by kernel_rfl

set_option maxHeartbeats 400000 in
theorem clone_nil (c : Nat) (w : World) :
    Calls Try.prog 32 #[.slice none 0 c] w fun e w' => e = .returned (.slice none 0 0) ∧ w = w' := by
  have hn := fun (w : World) (n c : Nat) => Lib.run_eql_slice_nil (P := Try.prog) w 22 5 none n c 0 0 Try.underlying22
  go_enter Try.func32, Try.ntmps32
  go_wp2
  go_ret
  exact ⟨rfl, rfl⟩

set_option maxHeartbeats 400000 in
theorem clone_some (ad : Addr) (c : Nat) (l : List Int) (w : World) (h : ReadsInt w .u8 (some ad) l.length l) (hc : l.length ≤ c) (hl : l.length ≤ 140737488351232) :
    Calls Try.prog 32 #[.slice (some ad) l.length c] w fun e w' => ∃ v, e = .returned v ∧ Kd.R (Kd.int .u8) 5 w' w.heap.size (fun _ => True) v l ∧ Below w.heap.size w w' ∧ v ≠ .slice none 0 0 := by
  have hn := fun (w : World) (ad : Addr) (n c : Nat) => Lib.run_eql_slice_nil (P := Try.prog) w 22 5 (some ad) n c 0 0 Try.underlying22
  have hr := h
  have HR := Lib.hid h
  clear h hr
  go_enter Try.func32, Try.ntmps32
  go_wp2_with (at_builtin; refine print_append_row (w0 := w) w.heap.size rfl _ _ 22 5 .u8 1 rfl Try.underlying22 infoU8 (by decide) _ [] l _ _ _ rfl rfl ?ho ?hr ?hb ?hs ?hl ?hk)
  case ho => exact World.ownsRow_made w _ 0 (Nat.le_refl _) (by decide) rfl
  case hr => exact HR.out.below ((Below.refl _ _).alloc (Nat.le_refl _) _)
  case hb => exact (Below.refl _ _).alloc (Nat.le_refl _) _
  case hs => simp
  case hl => simp; omega
  case hk =>
    intro v1 w1 ho hB hg hat
    have HO := Lib.hid ho
    have HT := Lib.hid hat
    clear ho hat
    go_wp2
    go_ret
    refine ⟨v1, rfl, Kd.R_of_own HO.out (fun _ _ => trivial), hB, ?_⟩
    rintro rfl
    rcases HT.out with h | ⟨b, h, _⟩ <;> simp [Value.ownBlock] at h

/-- bytes.Clone of any bytes: bytes of its own. -/
theorem clone_any (A : Option Addr) (c : Nat) (l : List Int) (w : World) (h : Kd.C (Kd.int .u8) w A l.length l) (hc : l.length ≤ c) (hl : l.length ≤ 140737488351232) :
    Calls Try.prog 32 #[.slice A l.length c] w fun e w' => ∃ v, e = .returned v ∧ Kd.R (Kd.int .u8) 5 w' w.heap.size (fun _ => True) v l ∧ Below w.heap.size w w' := by
  cases A with
  | none =>
    have h0 : l = [] := by
      rcases h with ⟨_, _, h3⟩
      cases l with
      | nil => rfl
      | cons x l => obtain ⟨ad, e, _⟩ := h3 (by simp); cases e
    subst h0
    refine (clone_nil c w).mono ?_
    rintro e w' ⟨rfl, rfl⟩
    exact ⟨_, rfl, Kd.R_nil _ _ _ _ _, Below.refl _ _⟩
  | some ad =>
    refine (clone_some ad c l w ?_ hc hl).mono ?_
    · exact Kd.reads_of_C (enc := Value.int .u8) (d := (0 : Int)) (h1 := fun _ => rfl) h
    · rintro e w' ⟨v, rfl, h1, h2, _⟩
      exact ⟨v, rfl, h1, h2⟩
end Go.Proofs.Ytbfpmlblnfablaa
