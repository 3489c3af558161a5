/- The walks of prices' at and alike, of math.Inf and math.IsInf. -/
import Derived.Test.YtjclpepdjnffaaaDiffT
import Derived.Test.YtjclpepdjnffaaaDiffB
import Derived.Test.YtjclpepdjnffaaaChecked
import Derived.Test.YtjclpepdjnffaaaRegion
import Derived.WalkKit
import Derived.Laws.FloatArith
import Derived.Test.YtjclpepdjnffaaaWMore
import Derived.Lib.Hide
set_option linter.unusedVariables false
set_option linter.unusedSimpArgs false
namespace Go.Proofs.Ytjclpepdjnffaaa
open Go.RowKit Go.Proofs.YtjclpepdjnffaaaW.PrintWords Go.Proofs.YtjclpepdjnffaaaW.PrintLast

/-! ## floats: a small whole number, or infinity -/
def fv : Option Nat → Nat
  | none => infw
  | some n => fw n
def okF (a : Option Nat) : Prop := ∀ n, a = some n → n < 1300
def ocmp : Option Nat → Option Nat → Ordering
  | none, none => .eq
  | none, some _ => .gt
  | some _, none => .lt
  | some a, some b => compare a b
theorem fv_order {a b : Option Nat} (ha : okF a) (hb : okF b) : Ieee.double.order (fv a) (fv b) = some (ocmp a b) := by
  cases a with
  | none =>
    cases b with
    | none => exact inf_inf
    | some b => exact inf_fw (hb b rfl)
  | some a =>
    cases b with
    | none => exact fw_inf (ha a rfl)
    | some b => exact fw_order (ha a rfl) (hb b rfl)
def omin : Option Nat → Option Nat → Option Nat
  | none, b => b
  | a, none => a
  | some a, some b => some (min a b)
def ole (a b : Option Nat) : Bool := ocmp a b == .lt || ocmp a b == .eq
theorem ole_some (a b : Nat) : ole (some a) (some b) = decide (a ≤ b) := by
  show (compare a b == .lt || compare a b == .eq) = _
  rw [Nat.compare_eq_ite_lt]
  by_cases h1 : a < b
  · simp [h1, Nat.le_of_lt h1]
  · by_cases h2 : b < a
    · simp [h1, h2, Nat.not_le.2 h2]
    · obtain rfl : a = b := by omega
      simp
section
variable {P : Program}
theorem run_gtr {x y : Nat} {c : Ordering} (h : Ieee.double.order x y = some c) (t : TypeId) (w : World) : (binOp .gtr t (.float .f64 x) (.float .f64 y)).run P w = .ok (.bool (c == .gt)) w := by
  have h' : FloatKind.f64.format.order x y = some c := h
  simp [binOp, Op.floatCmp, h']
theorem run_leq {a b : Option Nat} (ha : okF a) (hb : okF b) (t : TypeId) (w : World) : (binOp .leq t (.float .f64 (fv a)) (.float .f64 (fv b))).run P w = .ok (.bool (ole a b)) w := by
  have h' : FloatKind.f64.format.order (fv a) (fv b) = some (ocmp a b) := fv_order ha hb
  simp [binOp, Op.floatCmp, h', ole]
theorem run_fadd {a : Option Nat} (ha : okF a) (t : TypeId) (w : World) : (binOp .add t (.float .f64 (fv a)) (.float .f64 4607182418800017408)).run P w = .ok (.float .f64 (fv (a.map (· + 1)))) w := by
  refine run_float_arith w .add t .f64 _ _ _ ?_
  show Ieee.double.add (fv a) 4607182418800017408 = some _
  rw [← fw_one]
  cases a with
  | none => exact inf_add
  | some a => exact fw_add (ha a rfl)
theorem fv_add {a : Option Nat} (ha : okF a) : FloatKind.f64.format.add (fv a) 4607182418800017408 = some (fv (a.map (· + 1))) := by
  show Ieee.double.add (fv a) 4607182418800017408 = some _
  rw [← fw_one]
  cases a with
  | none => exact inf_add
  | some a => exact fw_add (ha a rfl)
theorem run_store_float (w : World) (a : Addr) (m : Mode) (k : FloatKind) (n : Nat) : (store a (.float k n) m).run P w = stored P w a (.float k n) m := run_store P w a _ m rfl
theorem run_fmin {a b : Option Nat} (ha : okF a) (hb : okF b) (ats : Array TypeId) (ty : TypeId) (w : World) : (Builtin.min_ ats ty #[.float .f64 (fv a), .float .f64 (fv b)]).run P w = .ok (.float .f64 (fv (omin a b))) w := by
  have h' : FloatKind.f64.format.order (fv a) (fv b) = some (ocmp a b) := fv_order ha hb
  rw [Go.Proofs.YtjclpepdjnffaaaW.PrintMore.min_two]
  simp only [Builtin.min2, h', Sem.run_bind]
  cases a with
  | none =>
    cases b with
    | none =>
      have : (FloatKind.f64.decode (fv none)).neg = false := by rw [show FloatKind.f64.decode (fv none) = Ieee.double.read infw from rfl, inf_read]; rfl
      simp [ocmp, this, omin]
    | some b => simp [ocmp, omin]
  | some a =>
    cases b with
    | none => simp [ocmp, omin]
    | some b =>
      simp only [ocmp, omin, Nat.compare_eq_ite_lt]
      by_cases h1 : a < b
      · simp [h1, Nat.min_eq_left (Nat.le_of_lt h1)]
      · by_cases h2 : b < a
        · simp [h1, h2, Nat.min_eq_right (Nat.le_of_lt h2)]
        · obtain rfl : a = b := by omega
          simp
end
theorem run_feq {P : Program} {a b : Option Nat} (ha : okF a) (hb : okF b) (d : Nat) (t : TypeId) (h : P.underlying t = some (.float .f64)) (w : World) : (Op.equalIn (d + 1) t (.float .f64 (fv a)) (.float .f64 (fv b))).run P w = .ok (ocmp a b == .eq) w := by
  have h' : FloatKind.f64.format.order (fv a) (fv b) = some (ocmp a b) := fv_order ha hb
  simp [Op.equalIn, run_underlying h, Op.floatEq, h']

theorem run_frombits (n : Int) (w : World) : (callFunc 32 #[.int .u64 n]).run Try.prog w = .ok (.value (.float .f64 n.toNat)) w := by rfl
set_option maxRecDepth 100000 in
set_option maxHeartbeats 1000000 in
theorem inf_any (w : World) : Calls Try.prog 29 #[.int .i64 1] w fun e w' => e = .returned (.float .f64 infw) ∧ Below w.heap.size w w' := by
  go_enter Try.func29, Try.ntmps29
  go_wp2_with fail
  rw [run_frombits]
  rw [Oper.upon_value]
  go_wp2_with fail
  go_ret
  exact ⟨rfl, Below.refl _ _⟩
set_option maxRecDepth 100000 in
set_option maxHeartbeats 1000000 in
theorem isInf_any (a : Option Nat) (ha : okF a) (w : World) : Calls Try.prog 28 #[.float .f64 (fv a), .int .i64 1] w fun e w' => e = .returned (.bool a.isNone) ∧ Below w.heap.size w w' := by
  have kc : (FloatKind.f64.format.order (fv a) 9218868437227405311 == some Ordering.gt) = a.isNone := by
    cases a with
    | none => rw [show FloatKind.f64.format.order (fv none) 9218868437227405311 = some .gt from inf_most]; rfl
    | some a => rw [show FloatKind.f64.format.order (fv (some a)) 9218868437227405311 = some .lt from fw_most (ha a rfl)]; rfl
  go_enter Try.func28, Try.ntmps28
  go_wp2_with fail
  go_ret
  exact ⟨rfl, Below.refl _ _⟩

/-! ## prices -/
def flt (n : Nat) : Value := .float .f64 (fw n)
/-- What *prices at pb holds. -/
structure PrAt (w : World) (pb base : Nat) (A : Option Addr) (na ca : Nat) (B : Option Addr) (nb cb : Nat) (v : Value) (T : Nat → Nat → Nat) (blk : Nat → Nat) : Prop where
  head : w.heap[pb]? = some (.cells #[.slice A na ca, .slice B nb cb, v] 51 (0, 0))
  tab : TabAt flt 46 52 w base v (na + 1) (nb + 1) T blk
theorem PrAt.below {w w' : World} {pb base : Nat} {A : Option Addr} {na ca : Nat} {B : Option Addr} {nb cb : Nat} {v : Value} {T : Nat → Nat → Nat} {blk : Nat → Nat} (h : PrAt w pb base A na ca B nb cb v T blk) (hB : Below w.heap.size w w') : PrAt w' pb base A na ca B nb cb v T blk :=
  ⟨(hB.block _ (blk_lt h.head)).trans h.head, h.tab.below hB⟩
theorem head_cells {w : World} {pb : Nat} {x y z : Value} {t : TypeId} (h : w.heap[pb]? = some (.cells #[x, y, z] t (0, 0))) : w.cell? ⟨pb, 0, none⟩ = some x ∧ w.cell? ⟨pb, 1, none⟩ = some y ∧ w.cell? ⟨pb, 2, none⟩ = some z := ⟨blk_cell h 0, blk_cell h 1, blk_cell h 2⟩
set_option maxRecDepth 100000 in
set_option maxHeartbeats 1000000 in
theorem at_out (w : World) (pb : Nat) (A : Option Addr) (na ca : Nat) (B : Option Addr) (nb cb : Nat) (v : Value) (i k : Nat) (h : w.heap[pb]? = some (.cells #[.slice A na ca, .slice B nb cb, v] 51 (0, 0))) (hik : na < i ∨ nb < k) :
    Calls Try.prog 24 #[.pointer (some ⟨pb, 0, none⟩), .int .i64 (i : Int), .int .i64 (k : Int)] w fun e w' => e = .returned (.float .f64 infw) ∧ Below w.heap.size w w' := by
  obtain ⟨c0, c1, c2⟩ := head_cells h
  have hb := blk_lt h
  have HH := Lib.hid h
  clear h
  by_cases h1 : na < i
  · have d1 : (i : Int) > (na : Int) := by omega
    clear hik
    go_enter Try.func24, Try.ntmps24
    go_wp2_with fail
    refine (inf_any _).mono ?_
    rintro e w' ⟨rfl, hB⟩
    go_wp2_with fail
    go_ret
    exact ⟨rfl, hB⟩
  · have d1 : ¬ (i : Int) > (na : Int) := by omega
    have d2 : (k : Int) > (nb : Int) := by omega
    clear hik
    go_enter Try.func24, Try.ntmps24
    go_wp2_with fail
    refine (inf_any _).mono ?_
    rintro e w' ⟨rfl, hB⟩
    go_wp2_with fail
    go_ret
    exact ⟨rfl, hB⟩
set_option maxRecDepth 100000 in
set_option maxHeartbeats 1000000 in
theorem at_in (w : World) (pb base : Nat) (A : Option Addr) (na ca : Nat) (B : Option Addr) (nb cb : Nat) (v : Value) (T : Nat → Nat → Nat) (blk : Nat → Nat) (i k : Nat) (h : PrAt w pb base A na ca B nb cb v T blk) (hi : i ≤ na) (hk : k ≤ nb) :
    Calls Try.prog 24 #[.pointer (some ⟨pb, 0, none⟩), .int .i64 (i : Int), .int .i64 (k : Int)] w fun e w' => e = .returned (.float .f64 (fw (T i k))) ∧ Below w.heap.size w w' := by
  obtain ⟨h, ht⟩ := h
  obtain ⟨g, cap, rfl, hc, hg, hgl, _⟩ := own_form ht.rows (by omega)
  obtain ⟨c0, c1, c2⟩ := head_cells h
  obtain ⟨c3, c4, c5, _⟩ := ht.get g cap rfl (i := i) (k := k) (by omega) (by omega)
  have hb := blk_lt h
  have HH := Lib.hid h
  have HT := Lib.hid ht
  clear h ht
  have d1 : ¬ (i : Int) > (na : Int) := by omega
  have d2 : ¬ (k : Int) > (nb : Int) := by omega
  generalize hbi : blk i = bi at *
  generalize hfl : flt (T i k) = u at *
  have HF := Lib.hid hfl
  clear hbi hfl
  go_enter Try.func24, Try.ntmps24
  go_wp2_with fail
  go_ret
  exact ⟨by rw [← HF.out]; rfl, Below.refl _ _⟩
end Go.Proofs.Ytjclpepdjnffaaa
