/- The walk of prices' alike. -/
import Derived.Test.YtjclpepdjnffaaaDiffW1
import Derived.Test.YtjclpepdjnffaaaDiffC
import Derived.Deep.QuietTactic
import Derived.BigQuiet
set_option linter.unusedVariables false
set_option linter.unusedSimpArgs false
namespace Go.Proofs.Ytjclpepdjnffaaa
open Go.RowKit Go.Proofs.YtjclpepdjnffaaaW.PrintWords Go.Proofs.YtjclpepdjnffaaaW.PrintLast

theorem below_drewN0 (w : World) (n : Nat) : Below w.heap.size w (w.drewN n) := pw_below_drewN (Below.refl _ _) n
set_option maxRecDepth 100000 in
set_option maxHeartbeats 1000000 in
theorem alike_any (w : World) (pb : Nat) (A : Option Addr) (ca : Nat) (B : Option Addr) (cb : Nat) (v : Value) (a b : List ByteArray) (i k : Nat) (h : w.heap[pb]? = some (.cells #[.slice A a.length ca, .slice B b.length cb, v] 51 (0, 0)))
    (ha : Kd.string.C w A a.length a) (hb : Kd.string.C w B b.length b) :
    Calls Try.prog 23 #[.pointer (some ⟨pb, 0, none⟩), .int .i64 (i : Int), .int .i64 (k : Int)] w fun e w' => e = .returned (.bool (decide (i < a.length ∧ k < b.length ∧ a.getD i ByteArray.empty = b.getD k ByteArray.empty))) ∧ Below w.heap.size w w' := by
  obtain ⟨c0, c1, c2⟩ := head_cells h
  have hlt := blk_lt h
  have HA := Lib.hid ha
  have HB := Lib.hid hb
  clear h ha hb
  by_cases h1 : i < a.length
  · have d1 : decide ((i : Int) < (a.length : Int)) = true := decide_eq_true (by omega)
    by_cases h2 : k < b.length
    · have d2 : decide ((k : Int) < (b.length : Int)) = true := decide_eq_true (by omega)
      obtain ⟨ad, rfl, c3⟩ := Kd.at_string HA.out (i : Int) (by omega) (by omega)
      obtain ⟨bd, rfl, c4⟩ := Kd.at_string HB.out (k : Int) (by omega) (by omega)
      rw [rdOf_nat _ _ _ h1, Int.toNat_natCast] at c3
      rw [rdOf_nat _ _ _ h2, Int.toNat_natCast] at c4
      obtain ⟨x, hx⟩ : ∃ x, x = a[i] := ⟨_, rfl⟩
      obtain ⟨y, hy⟩ : ∃ y, y = b[k] := ⟨_, rfl⟩
      rw [← hx] at c3
      rw [← hy] at c4
      have e : decide (i < a.length ∧ k < b.length ∧ a.getD i ByteArray.empty = b.getD k ByteArray.empty) = (x.toList == y.toList) := by
        rw [List.getD_eq_getElem?_getD, List.getD_eq_getElem?_getD, List.getElem?_eq_getElem h1, List.getElem?_eq_getElem h2, Option.getD_some, Option.getD_some, ← hx, ← hy]
        by_cases hxy : x = y
        · subst hxy
          simp [h1, h2]
        · rw [decide_eq_false (fun h => hxy h.2.2)]
          symm
          rw [beq_eq_false_iff_ne]
          exact fun h => hxy ((bytes_eq _ _).1 h)
      rw [e]
      have hi0 : (0 : Int) ≤ (i : Int) := by omega
      have hk0 : (0 : Int) ≤ (k : Int) := by omega
      have hi1 : (i : Int) < (a.length : Int) := by omega
      have hk1 : (k : Int) < (b.length : Int) := by omega
      clear hx hy e
      go_enter Try.func23, Try.ntmps23
      go_wp2_with fail
      go_quiet (fail)
      go_wp2
      go_ret
      exact ⟨rfl, below_drewN0 _ _⟩
    · have d2 : decide ((k : Int) < (b.length : Int)) = false := decide_eq_false (by omega)
      rw [decide_eq_false (fun h => h2 h.2.1)]
      go_enter Try.func23, Try.ntmps23
      go_wp2_with fail
      go_quiet (fail)
      go_wp2
      go_ret
      exact ⟨rfl, below_drewN0 _ _⟩
  · have d1 : decide ((i : Int) < (a.length : Int)) = false := decide_eq_false (by omega)
    rw [decide_eq_false (fun h => h1 h.1)]
    go_enter Try.func23, Try.ntmps23
    go_wp2_with fail
    go_quiet (fail)
    go_wp2
    go_ret
    exact ⟨rfl, below_drewN0 _ _⟩
end Go.Proofs.Ytjclpepdjnffaaa
