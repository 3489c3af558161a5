/- Two ends, of two kinds, side by side; the calls of SessionPlays. -/
import Derived.Test.YthfgkkpibkkiaaaDoorSessK
import Derived.Test.YthfgkkpibkkiaaaDoorSessN
set_option linter.unusedVariables false
set_option linter.unusedSimpArgs false
namespace Go.Proofs.YthfgkkpibkkiaaaDoor
open Go.RowKit Go.Proofs.YthfgkkpibkkiaaaDoorW.PrintWords Go.Proofs.YthfgkkpibkkiaaaDoorW.PrintLast Go.Proofs.YthfgkkpibkkiaaaDoor.PSessionPlays

structure Duo (T1 T2 : TypeId) (w0 w : World) (g1 g2 : Nat) (e1 e2 : E) : Prop where
  hB : Below w0.heap.size w0 w
  ex : ∃ S1 S2, EndAt T1 w w0.heap.size g1 S1 e1 ∧ EndAt T2 w w0.heap.size g2 S2 e2 ∧ (∀ k, S1 k → ¬ S2 k)
section
variable {T1 T2 : TypeId} {w0 w w' : World} {g1 g2 : Nat} {e e' e1 e2 : E}
theorem Duo.made {w1 w2 : World} (h1 : EndAt T1 w1 w0.heap.size g1 (fun k => k = g1) e1) (hB1 : Below w0.heap.size w0 w1) (h2 : EndAt T2 w2 w1.heap.size g2 (fun k => k = g2) e2) (hB2 : Below w1.heap.size w1 w2) : Duo T1 T2 w0 w2 g1 g2 e1 e2 := by
  refine ⟨hB1.trans (hB2.mono hB1.size), _, _, h1.below hB2, h2.lower hB1.size, fun k hk hk2 => ?_⟩
  have a := (h1.lt k hk).1
  have b := (h2.lt k hk2).2
  omega
theorem Duo.swap (h : Duo T1 T2 w0 w g1 g2 e1 e2) : Duo T2 T1 w0 w g2 g1 e2 e1 := by
  obtain ⟨S1, S2, h1, h2, h3⟩ := h.ex
  exact ⟨h.hB, S2, S1, h2, h1, fun k hk h' => h3 k h' hk⟩
theorem Duo.below (h : Duo T1 T2 w0 w g1 g2 e1 e2) (k : Below w.heap.size w w') : Duo T1 T2 w0 w' g1 g2 e1 e2 := by
  obtain ⟨S1, S2, h1, h2, h3⟩ := h.ex
  exact ⟨h.hB.trans (k.mono h.hB.size), S1, S2, h1.below k, h2.below k, h3⟩
theorem Duo.step {P : Program} {f : FuncId} {args : Array Value} {Q : Ending → World → Prop} (h : Duo T1 T2 w0 w g1 g2 e1 e2) (hc : ∀ S, EndAt T1 w w0.heap.size g1 S e1 → Calls P f args w fun r w' => Q r w' ∧ EndStep T1 w w' w0.heap.size g1 S e') :
    Calls P f args w fun r w' => Q r w' ∧ Duo T1 T2 w0 w' g1 g2 e' e2 := by
  obtain ⟨S1, S2, h1, h2, h3⟩ := h.ex
  refine (hc S1 h1).mono ?_
  rintro r w' ⟨hq, S', k1, k2, k3⟩
  refine ⟨hq, h.hB.trans (k3.toBelow h.hB.size (fun i hi => (h1.lt i hi).2)), S', S2, k1, h2.turns k3 (fun i hi hi' => h3 i hi' hi), fun k hk hk2 => ?_⟩
  rcases k2 k hk with h' | h'
  · exact h3 k h' hk2
  · have := (h2.lt k hk2).1
    omega
theorem Duo.look {P : Program} {f : FuncId} {args : Array Value} {Q : Ending → World → Prop} (h : Duo T1 T2 w0 w g1 g2 e1 e2) (hc : ∀ S, EndAt T1 w w0.heap.size g1 S e1 → Calls P f args w Q) : Calls P f args w Q := by
  obtain ⟨S1, S2, h1, _⟩ := h.ex
  exact hc S1 h1
/-- The second end's cells, and what its rows read as. -/
theorem Duo.cells (h : Duo T1 T2 w0 w g1 g2 e1 e2) : ∃ As cs Ac cc, w.cell? ⟨g2, 2, none⟩ = some (.int .i64 (e2.there : Int)) ∧ w.cell? ⟨g2, 1, none⟩ = some (.slice As e2.sent.length cs) ∧ w.cell? ⟨g2, 3, none⟩ = some (.slice Ac e2.came.length cc) ∧ e2.came.length ≤ cc ∧ kT.C w Ac e2.came.length e2.came := by
  obtain ⟨S1, S2, _, h2, _⟩ := h.ex
  obtain ⟨vs, vc, Ss, Sc, k1, k2, k3, _, _⟩ := h2.row
  obtain ⟨As, cs, rfl, _, _⟩ := Kd.R_reads k2
  obtain ⟨Ac, cc, rfl, hc, hC⟩ := Kd.R_reads k3
  obtain ⟨_, c1, c2, c3, _⟩ := cells4 k1
  exact ⟨As, cs, Ac, cc, c2, c1, c3, hc, hC⟩
end
/-- What an end is like behind i calls. -/
structure Fine (e : E) (i : Nat) : Prop where
  s : e.sent.length ≤ 64
  t : e.there ≤ 64
  c : e.came.length ≤ i
  ss : ∀ l ∈ e.sent, l.length ≤ 140737488351232
  cs : ∀ l ∈ e.came, l.length ≤ 140737488351232
theorem Fine.new (ep : Int) : Fine ⟨ep, [], 0, []⟩ 0 := ⟨by simp, by simp, by simp, by simp, by simp⟩
theorem Fine.more {e : E} {i : Nat} (h : Fine e i) : Fine e (i + 1) := ⟨h.s, h.t, by have := h.c; omega, h.ss, h.cs⟩
theorem Fine.send {e : E} {i : Nat} (h : Fine e i) (l : List Int) : Fine (sendE e l) (i + 1) := by
  unfold sendE
  split
  · rename_i hok
    have hok' := of_decide_eq_true hok
    have h1 := hok'.1
    have h2 := hok'.2
    have h3 := h.s
    refine ⟨?_, h.t, by have := h.c; show e.came.length ≤ _; omega, ?_, h.cs⟩
    · show (e.sent ++ [l]).length ≤ 64
      rw [List.length_append, List.length_singleton]
      omega
    · intro x hx
      have hx' : x ∈ e.sent ++ [l] := hx
      rw [List.mem_append, List.mem_singleton] at hx'
      rcases hx' with hx' | rfl
      · exact h.ss x hx'
      · omega
  · exact h.more
theorem Fine.take {e : E} {i : Nat} (h : Fine e i) (x : S24) : Fine (takeE e x) (i + 1) := by
  unfold takeE
  split
  · rename_i hok
    unfold takeOk at hok
    rw [Bool.and_eq_true, Bool.and_eq_true, decide_eq_true_iff, decide_eq_true_iff] at hok
    obtain ⟨⟨hf, _⟩, ha⟩ := hok
    unfold okF at hf
    simp only [Bool.and_eq_true, decide_eq_true_iff] at hf
    have hlen := hf.1.2
    have h3 := h.s
    have h4 := h.t
    refine ⟨h.s, ?_, ?_, h.ss, ?_⟩
    · show max e.there x.f1.toNat ≤ 64
      omega
    · show (if _ then _ else _ : List (List Int)).length ≤ i + 1
      have := h.c
      split
      · rw [List.length_append, List.length_singleton]
        omega
      · omega
    · intro y hy
      have hy' : y ∈ (if x.f2 = true ∧ x.f3 = (e.came.length : Int) then e.came ++ [x.f4] else e.came) := hy
      split at hy'
      · rw [List.mem_append, List.mem_singleton] at hy'
        rcases hy' with hy' | rfl
        · exact h.cs y hy'
        · omega
      · exact h.cs y hy'
  · exact h.more
theorem tick_len4 (e : E) : (tickE e).length ≤ 4 := by
  unfold tickE windowOf
  split
  · rw [List.length_mapIdx, List.length_take]
    omega
  · simp
abbrev kOp : Kd (Int × S24) := Kd.pair (Kd.int .i64) k24
abbrev kOps : Kd (List (Int × S24)) := Kd.slice 40 kOp
def goodOp (x : Int × S24) : Prop := (Lit.int .i64 x.1).wf = true ∧ goodF x.2
def goodOps (l : List (Int × S24)) : Prop := l.length * 64 ≤ 140737488351232 ∧ ∀ x ∈ l, goodOp x
set_option maxRecDepth 100000 in
theorem opens_op : Opens Tryd.prog 40 kOp goodOp :=
  Opens.struct Tryd.underlying40 (by kernel_rfl) (OpensF.cons rfl (by kernel_rfl) (Opens.int Tryd.underlying3) (OpensF.one rfl (by kernel_rfl) opens_frame))
set_option maxRecDepth 100000 in
theorem opens_ops : Opens Tryd.prog 34 kOps goodOps :=
  Opens.slice Tryd.underlying34 (by kernel_rfl) (B := 64) (by kernel_rfl) opens_op
theorem ops_open {w : World} {l : List (Int × S24)} {A : Option Addr} {n c : Nat} (h : kOps.K w l [.slice A n c]) : n = l.length ∧ n ≤ c ∧ Kd.C kOp w A n l := by
  obtain ⟨A', c', e, l', hr⟩ := h
  injection e with e _
  injection e with a b c
  subst a b c
  exact ⟨rfl, l', hr⟩
theorem at_op {w : World} {A : Option Addr} {n : Nat} {xs : List (Int × S24)} (h : Kd.C kOp w A n xs) (k : Nat) (hk : k < n) (q : Int) (x : S24) (hx : xs[k]? = some (q, x)) : ∃ ad A4 c4, A = some ad ∧ w.cell? (ad.add (k * 6)) = some (.int .i64 q) ∧ w.cell? ⟨(ad.add (k * 6)).block, (ad.add (k * 6)).off + 1, none⟩ = some (.int .i64 x.f0) ∧ w.cell? ⟨(ad.add (k * 6)).block, (ad.add (k * 6)).off + 2, none⟩ = some (.int .i64 x.f1) ∧ w.cell? ⟨(ad.add (k * 6)).block, (ad.add (k * 6)).off + 3, none⟩ = some (.bool x.f2) ∧ w.cell? ⟨(ad.add (k * 6)).block, (ad.add (k * 6)).off + 4, none⟩ = some (.int .i64 x.f3) ∧ w.cell? ⟨(ad.add (k * 6)).block, (ad.add (k * 6)).off + 5, none⟩ = some (.slice A4 x.f4.length c4) ∧ x.f4.length ≤ c4 ∧ (Kd.int .u8).C w A4 x.f4.length x.f4 := by
  obtain ⟨ad, c, e, _, hK, hc0⟩ := Kd.C_get h ((0 : Int), z24) (k : Int) (by omega) (by omega)
  rw [Int.toNat_natCast] at hK hc0
  rw [show xs.getD k ((0 : Int), z24) = (q, x) from by rw [List.getD_eq_getElem?_getD, hx]; rfl] at hK
  have hc : ∀ j u, c[j]? = some u → w.cell? (ad.add (k * 6 + j)) = some u := hc0
  obtain ⟨cs1, cs2, rfl, h1, h2⟩ := hK
  have h1' : cs1 = [.int .i64 q] := h1
  subst h1'
  obtain ⟨A4, c4, rfl, l4, g4⟩ := k24_open h2
  exact ⟨ad, A4, c4, e, hc 0 _ rfl, by rw [← add_field _ _ 1 (by omega)]; exact hc 1 _ rfl, by rw [← add_field _ _ 2 (by omega)]; exact hc 2 _ rfl, by rw [← add_field _ _ 3 (by omega)]; exact hc 3 _ rfl, by rw [← add_field _ _ 4 (by omega)]; exact hc 4 _ rfl, by rw [← add_field _ _ 5 (by omega)]; exact hc 5 _ rfl, l4, g4⟩
end Go.Proofs.YthfgkkpibkkiaaaDoor
