/- Calls as the statements give them: Op, does, Great. -/
import Derived.Test.YtbfpmlblnfablaaDiskS
set_option linter.unusedVariables false
set_option linter.unusedSimpArgs false
namespace Go.Proofs.Ytbfpmlblnfablaa
open Go.RowKit Go.Proofs.YtbfpmlblnfablaaW.PrintWords Go.Proofs.YtbfpmlblnfablaaW.PrintLast Go.Proofs.YtbfpmlblnfablaaW.PrintMore

structure Op1 where
  what : Int
  a : ByteArray
  tn : ByteArray
  b : List Int
  n : Int
  keep : List Bool
abbrev tOp : TypeId := 42
abbrev kOp : Kd Op1 := Kd.iso (Kd.pair (Kd.int .i64) (Kd.pair Kd.string (Kd.pair Kd.string (Kd.pair (Kd.slice 5 (Kd.int .u8)) (Kd.pair (Kd.int .i64) (Kd.slice 4 Kd.bool)))))) (fun o : Op1 => (o.what, o.a, o.tn, o.b, o.n, o.keep))
abbrev kOps : Kd (List Op1) := Kd.slice 42 kOp
def goodK (l : List Bool) : Prop := l.length * 1 ≤ 140737488351232 ∧ ∀ x ∈ l, True
def goodOp (o : Op1) : Prop := (Lit.int .i64 o.what).wf = true ∧ o.a.size ≤ 140737488351232 ∧ o.tn.size ≤ 140737488351232 ∧ goodB o.b ∧ (Lit.int .i64 o.n).wf = true ∧ goodK o.keep
def goodOps (l : List Op1) : Prop := l.length * 96 ≤ 140737488351232 ∧ ∀ x ∈ l, goodOp x
theorem opens_keep : Opens Try.prog 33 (Kd.slice 4 Kd.bool) goodK :=
  Opens.slice Try.underlying33 (by kernel_rfl) (B := 1) (by kernel_rfl) (Opens.bool Try.underlying4)
set_option maxRecDepth 100000 in
theorem opens_op : Opens Try.prog 42 kOp goodOp :=
  Opens.iso (Opens.struct Try.underlying42 (by kernel_rfl) (OpensF.cons rfl (by kernel_rfl) (Opens.int Try.underlying3) (OpensF.cons rfl (by kernel_rfl) (Opens.string Try.underlying9) (OpensF.cons rfl (by kernel_rfl) (Opens.string Try.underlying9)
    (OpensF.cons rfl (by kernel_rfl) opens_bytes (OpensF.cons rfl (by kernel_rfl) (Opens.int Try.underlying3) (OpensF.one rfl (by kernel_rfl) opens_keep)))))))
    (fun o : Op1 => (o.what, o.a, o.tn, o.b, o.n, o.keep)) (fun p => ⟨p.1, p.2.1, p.2.2.1, p.2.2.2.1, p.2.2.2.2.1, p.2.2.2.2.2⟩) (fun _ => rfl)
set_option maxRecDepth 100000 in
theorem opens_ops : Opens Try.prog 38 kOps goodOps :=
  Opens.slice Try.underlying38 (by kernel_rfl) (B := 96) (by kernel_rfl) opens_op
theorem ops_open {w : World} {l : List Op1} {A : Option Addr} {n c : Nat} (h : kOps.K w l [.slice A n c]) : n = l.length ∧ n ≤ c ∧ Kd.C kOp w A n l := by
  obtain ⟨A', c', e, l', hr⟩ := h
  injection e with e _
  injection e with a b c
  subst a b c
  exact ⟨rfl, l', hr⟩
theorem keep_open {w : World} {l : List Bool} {A : Option Addr} {n c : Nat} (h : (Kd.slice 4 Kd.bool).K w l [.slice A n c]) : n = l.length ∧ n ≤ c ∧ Kd.C Kd.bool w A n l := by
  obtain ⟨A', c', e, l', hr⟩ := h
  injection e with e _
  injection e with a b c
  subst a b c
  exact ⟨rfl, l', hr⟩
/-- An Op in memory: its cells, and what its slices read. -/
structure OpRow (w : World) (o : Op1) (Ab Ak : Option Addr) (cb ck : Nat) : Prop where
  bC : Kd.C (Kd.int .u8) w Ab o.b.length o.b
  kC : Kd.C Kd.bool w Ak o.keep.length o.keep
  bc : o.b.length ≤ cb
theorem OpRow.below {w w' : World} {o : Op1} {Ab Ak : Option Addr} {cb ck : Nat} (h : OpRow w o Ab Ak cb ck) (k : Below w.heap.size w w') : OpRow w' o Ab Ak cb ck := ⟨Kd.C_below h.bC k, Kd.C_below h.kC k, h.bc⟩
def opCells (o : Op1) (Ab Ak : Option Addr) (cb ck : Nat) : List Value := [.int .i64 o.what, .string o.a, .string o.tn, .slice Ab o.b.length cb, .int .i64 o.n, .slice Ak o.keep.length ck]
theorem at_op {w : World} {A : Option Addr} {n : Nat} {xs : List Op1} (h : Kd.C kOp w A n xs) (k : Nat) (hk : k < n) (o : Op1) (hx : xs[k]? = some o) : ∃ ad Ab Ak cb ck, A = some ad ∧ w.cell? (ad.add (k * 6)) = some (.int .i64 o.what) ∧
    w.cell? ⟨(ad.add (k * 6)).block, (ad.add (k * 6)).off + 1, none⟩ = some (.string o.a) ∧ w.cell? ⟨(ad.add (k * 6)).block, (ad.add (k * 6)).off + 2, none⟩ = some (.string o.tn) ∧ w.cell? ⟨(ad.add (k * 6)).block, (ad.add (k * 6)).off + 3, none⟩ = some (.slice Ab o.b.length cb) ∧
    w.cell? ⟨(ad.add (k * 6)).block, (ad.add (k * 6)).off + 4, none⟩ = some (.int .i64 o.n) ∧ w.cell? ⟨(ad.add (k * 6)).block, (ad.add (k * 6)).off + 5, none⟩ = some (.slice Ak o.keep.length ck) ∧ OpRow w o Ab Ak cb ck := by
  obtain ⟨ad, c, e, _, hK, hc0⟩ := Kd.C_get h o (k : Int) (by omega) (by omega)
  rw [Int.toNat_natCast] at hK hc0
  rw [show xs.getD k o = o from by rw [List.getD_eq_getElem?_getD, hx]; rfl] at hK
  have hc : ∀ j u, c[j]? = some u → w.cell? (ad.add (k * 6 + j)) = some u := hc0
  obtain ⟨c1, c2, rfl, h1, ⟨c3, c4, rfl, h3, ⟨c5, c6, rfl, h5, ⟨c7, c8, rfl, h7, ⟨c9, c10, rfl, h9, h11⟩⟩⟩⟩⟩ := hK
  have h1' : c1 = [.int .i64 o.what] := h1
  have h3' : c3 = [.string o.a] := h3
  have h5' : c5 = [.string o.tn] := h5
  obtain ⟨Ab, cb, h7', l7, g7⟩ := h7
  have h9' : c9 = [.int .i64 o.n] := h9
  obtain ⟨Ak, ck, h11', l11, g11⟩ := h11
  subst h1' h3' h5' h7' h9' h11'
  exact ⟨ad, Ab, Ak, cb, ck, e, hc 0 _ rfl, by rw [← add_field _ _ 1 (by omega)]; exact hc 1 _ rfl, by rw [← add_field _ _ 2 (by omega)]; exact hc 2 _ rfl, by rw [← add_field _ _ 3 (by omega)]; exact hc 3 _ rfl,
    by rw [← add_field _ _ 4 (by omega)]; exact hc 4 _ rfl, by rw [← add_field _ _ 5 (by omega)]; exact hc 5 _ rfl, g7, g11, l7⟩
def doesE (d : D) (o : Op1) : Int :=
  if o.what = 0 then writeE d o.a o.b else if o.what = 1 then writeE d o.a o.b else if o.what = 2 then renameE d o.a o.tn else if o.what = 3 then remE d o.a else if o.what = 4 then syncE d else 0
def doesD (d : D) (o : Op1) : D :=
  if o.what = 0 then writeD d o.a o.b else if o.what = 1 then writeD d o.a o.b else if o.what = 2 then renameD d o.a o.tn else if o.what = 3 then remD d o.a else if o.what = 4 then syncD d else if o.what = 5 then fuseD d o.n else if o.what = 6 then crashD d o.keep else d
theorem wf_i64 {x : Int} (h : (Lit.int .i64 x).wf = true) : -9223372036854775808 ≤ x ∧ x ≤ 9223372036854775807 := by
  simp [Lit.wf, IntKind.min, IntKind.max, IntKind.bits, IntKind.signed] at h
  omega
theorem SmallI.does {n : Nat} {d : D} (h : SmallI n d) (o : Op1) (g : goodOp o) : SmallI (n + 1) (doesD d o) := by
  unfold doesD
  split
  · exact h.write _ _
  · split
    · exact h.write _ _
    · split
      · exact h.rename _ _
      · split
        · exact h.remove _
        · split
          · exact h.sync
          · split
            · exact h.fuseI _ (wf_i64 g.2.2.2.2.1).2
            · split
              · exact h.crash _
              · exact h.le (Nat.le_succ _)
set_option maxRecDepth 100000 in
set_option maxHeartbeats 4000000 in
theorem does_F {w0 w : World} {F : Nat → Prop} {g : Nat} {d : D} (h : DiskF w0 w F g d) (hsm : Small d) (o : Op1) (go : goodOp o) (Ab Ak : Option Addr) (cb ck : Nat) (hr : OpRow w o Ab Ak cb ck) :
    Calls Try.prog 20 #[pt g, .agg (opCells o Ab Ak cb ck).toArray] w fun r w' => r = .returned (.int .i64 (doesE d o)) ∧ DiskF w0 w' F g (doesD d o) ∧ Turns (Own w0 F) w w' := by
  obtain ⟨w1, hw1⟩ : ∃ w1, w1 = w.alloc (.cells (opCells o Ab Ak cb ck).toArray tOp) := ⟨_, rfl⟩
  have hB : Below w.heap.size w w1 := by rw [hw1]; exact (Below.refl _ _).alloc (Nat.le_refl _) _
  have hrow := hr.below hB
  have hD := h.below hB
  have hb := heap_alloc_new w (.cells (opCells o Ab Ak cb ck).toArray tOp)
  rw [← hw1] at hb
  have ga : o.a.size ≤ maxLen := by have := go.2.1; unfold maxLen; omega
  have gt : o.tn.size ≤ maxLen := by have := go.2.2.1; unfold maxLen; omega
  have gb : o.b.length ≤ 140737488351232 := by have := go.2.2.2.1.1; omega
  obtain ⟨what, hwh⟩ : ∃ x, x = o.what := ⟨_, rfl⟩
  obtain ⟨nb, hnb⟩ : ∃ x, x = o.b.length := ⟨_, rfl⟩
  obtain ⟨nk, hnk⟩ : ∃ x, x = o.keep.length := ⟨_, rfl⟩
  obtain ⟨sa, hsa⟩ : ∃ x, x = o.a := ⟨_, rfl⟩
  obtain ⟨st, hst⟩ : ∃ x, x = o.tn := ⟨_, rfl⟩
  obtain ⟨nn, hnn⟩ : ∃ x, x = o.n := ⟨_, rfl⟩
  unfold opCells at hb hw1 ⊢
  unfold doesE doesD
  rw [← hwh, ← hnb, ← hnk, ← hsa, ← hst, ← hnn] at hb ⊢
  rw [← hwh, ← hnb, ← hnk, ← hsa, ← hst, ← hnn] at hw1
  have k0 : w1.cell? ⟨w.heap.size, 0, none⟩ = some (.int .i64 what) := by simpa using blk_cell hb 0
  have k1 : w1.cell? ⟨w.heap.size, 1, none⟩ = some (.string sa) := by simpa using blk_cell hb 1
  have k2 : w1.cell? ⟨w.heap.size, 2, none⟩ = some (.string st) := by simpa using blk_cell hb 2
  have k3 : w1.cell? ⟨w.heap.size, 3, none⟩ = some (.slice Ab nb cb) := by simpa using blk_cell hb 3
  have k4 : w1.cell? ⟨w.heap.size, 4, none⟩ = some (.int .i64 nn) := by simpa using blk_cell hb 4
  have k5 : w1.cell? ⟨w.heap.size, 5, none⟩ = some (.slice Ak nk ck) := by simpa using blk_cell hb 5
  have HB := Lib.hid hB
  have HD := Lib.hid hD
  have HR := Lib.hid hrow
  have HS := Lib.hid hsm
  have HG := Lib.hid (And.intro ga (And.intro gt gb))
  have HQ := Lib.hid (And.intro hnb (And.intro hnk (And.intro hsa (And.intro hst hnn))))
  have HW := Lib.hid hw1
  clear hB hD hr hrow hsm h ga gt gb go hnb hnk hsa hst hnn hwh hb hw1
  by_cases q0 : what = 0
  · subst q0
    have hc := write_F HD.out HS.out o.a HG.out.1 Ab o.b.length cb o.b rfl HR.out.bC HR.out.bc HG.out.2.2
    rw [← HQ.out.1] at hc
    rw [← HQ.out.2.2.1] at hc
    have HCL := Lib.hid hc
    clear hc
    simp only [if_true, if_false, reduceCtorEq, Int.reduceEq, if_pos]
    go_enter Try.func20, Try.ntmps20
    go_wp2_with fail
    rw [← HW.out]
    refine HCL.out.mono ?_
    rintro r w2 ⟨rfl, hD2, hT2⟩
    have HD2 := Lib.hid (And.intro hD2 hT2)
    clear hD2 hT2
    go_wp2_with fail
    go_ret
    exact ⟨rfl, HD2.out.1, (Turns.of_below HB.out _).trans HD2.out.2 (fun _ h => .inl h)⟩
  by_cases q1 : what = 1
  · subst q1
    clear q0
    have hc := write_F HD.out HS.out o.a HG.out.1 Ab o.b.length cb o.b rfl HR.out.bC HR.out.bc HG.out.2.2
    rw [← HQ.out.1] at hc
    rw [← HQ.out.2.2.1] at hc
    have HCL := Lib.hid hc
    clear hc
    simp only [if_true, if_false, reduceCtorEq, Int.reduceEq, if_pos]
    go_enter Try.func20, Try.ntmps20
    go_wp2_with fail
    rw [← HW.out]
    refine HCL.out.mono ?_
    rintro r w2 ⟨rfl, hD2, hT2⟩
    have HD2 := Lib.hid (And.intro hD2 hT2)
    clear hD2 hT2
    go_wp2_with fail
    go_ret
    exact ⟨rfl, HD2.out.1, (Turns.of_below HB.out _).trans HD2.out.2 (fun _ h => .inl h)⟩
  by_cases q2 : what = 2
  · subst q2
    clear q0 q1
    have hc := rename_F HD.out HS.out o.a o.tn HG.out.1 HG.out.2.1
    rw [← HQ.out.2.2.1, ← HQ.out.2.2.2.1] at hc
    have HCL := Lib.hid hc
    clear hc
    simp only [if_true, if_false, reduceCtorEq, Int.reduceEq, if_pos]
    go_enter Try.func20, Try.ntmps20
    go_wp2_with fail
    rw [← HW.out]
    refine HCL.out.mono ?_
    rintro r w2 ⟨rfl, hD2, hT2⟩
    have HD2 := Lib.hid (And.intro hD2 hT2)
    clear hD2 hT2
    go_wp2_with fail
    go_ret
    exact ⟨rfl, HD2.out.1, (Turns.of_below HB.out _).trans HD2.out.2 (fun _ h => .inl h)⟩
  by_cases q3 : what = 3
  · subst q3
    clear q0 q1 q2
    have hc := remove_F HD.out HS.out o.a HG.out.1
    rw [← HQ.out.2.2.1] at hc
    have HCL := Lib.hid hc
    clear hc
    simp only [if_true, if_false, reduceCtorEq, Int.reduceEq, if_pos]
    go_enter Try.func20, Try.ntmps20
    go_wp2_with fail
    rw [← HW.out]
    refine HCL.out.mono ?_
    rintro r w2 ⟨rfl, hD2, hT2⟩
    have HD2 := Lib.hid (And.intro hD2 hT2)
    clear hD2 hT2
    go_wp2_with fail
    go_ret
    exact ⟨rfl, HD2.out.1, (Turns.of_below HB.out _).trans HD2.out.2 (fun _ h => .inl h)⟩
  by_cases q4 : what = 4
  · subst q4
    clear q0 q1 q2 q3
    have hc := sync_F HD.out HS.out
    have HCL := Lib.hid hc
    clear hc
    simp only [if_true, if_false, reduceCtorEq, Int.reduceEq, if_pos]
    go_enter Try.func20, Try.ntmps20
    go_wp2_with fail
    rw [← HW.out]
    refine HCL.out.mono ?_
    rintro r w2 ⟨rfl, hD2, hT2⟩
    have HD2 := Lib.hid (And.intro hD2 hT2)
    clear hD2 hT2
    go_wp2_with fail
    go_ret
    exact ⟨rfl, HD2.out.1, (Turns.of_below HB.out _).trans HD2.out.2 (fun _ h => .inl h)⟩
  by_cases q5 : what = 5
  · subst q5
    clear q0 q1 q2 q3 q4
    have hc := fuse_F HD.out o.n
    rw [← HQ.out.2.2.2.2] at hc
    have HCL := Lib.hid hc
    clear hc
    simp only [if_true, if_false, reduceCtorEq, Int.reduceEq, if_pos]
    go_enter Try.func20, Try.ntmps20
    go_wp2_with fail
    rw [← HW.out]
    refine HCL.out.mono ?_
    rintro r w2 ⟨rfl, hD2, hT2⟩
    have HD2 := Lib.hid (And.intro hD2 hT2)
    clear hD2 hT2
    go_wp2_with fail
    go_ret
    exact ⟨rfl, HD2.out.1, (Turns.of_below HB.out _).trans HD2.out.2 (fun _ h => .inl h)⟩
  by_cases q6 : what = 6
  · subst q6
    clear q0 q1 q2 q3 q4 q5
    have hc := crash_F HD.out HS.out Ak o.keep.length ck o.keep rfl HR.out.kC
    rw [← HQ.out.2.1] at hc
    have HCL := Lib.hid hc
    clear hc
    simp only [if_true, if_false, reduceCtorEq, Int.reduceEq, if_pos]
    go_enter Try.func20, Try.ntmps20
    go_wp2_with fail
    rw [← HW.out]
    refine HCL.out.mono ?_
    rintro r w2 ⟨rfl, hD2, hT2⟩
    have HD2 := Lib.hid (And.intro hD2 hT2)
    clear hD2 hT2
    go_wp2_with fail
    go_ret
    exact ⟨rfl, HD2.out.1, (Turns.of_below HB.out _).trans HD2.out.2 (fun _ h => .inl h)⟩
  simp only [q0, q1, q2, q3, q4, q5, q6, if_false]
  have HW2 := HW.out
  go_enter Try.func20, Try.ntmps20
  go_wp2_with fail
  go_ret
  exact ⟨rfl, by rw [← HW.out]; exact HD.out, by rw [← HW.out]; exact Turns.of_below HB.out _⟩
end Go.Proofs.Ytbfpmlblnfablaa
