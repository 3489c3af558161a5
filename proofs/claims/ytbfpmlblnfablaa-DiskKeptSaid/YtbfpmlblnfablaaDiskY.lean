/- Write, Rename, Remove. -/
import Derived.Test.YtbfpmlblnfablaaDiskX
set_option linter.unusedVariables false
set_option linter.unusedSimpArgs false
namespace Go.Proofs.Ytbfpmlblnfablaa
open Go.RowKit Go.Proofs.YtbfpmlblnfablaaW.PrintWords Go.Proofs.YtbfpmlblnfablaaW.PrintLast Go.Proofs.YtbfpmlblnfablaaW.PrintMore

theorem act_any (w : World) (base g : Nat) (S : Nat → Prop) (d : D) (h : DiskAt w base g S d) (hs : Small d) (gw : Nat) (cw : Array Value) (eg : ∀ args w, (callFunc gw args).run Try.prog w = .ok (.enter gw args) w) (code : Int)
    (hw : ∀ W, Turns (fun k => k = g) w W → DiskAt W base g S d → Calls Try.prog gw cw W fun e w' => e = .returned (.int .i64 code) ∧ Below W.heap.size W w') (gd : Nat) (cd : Array Value) (ed : ∀ args w, (callFunc gd args).run Try.prog w = .ok (.enter gd args) w)
    (c : Chg) (hf : FnAt w S (gd, cd) c) :
    Calls Try.prog 33 #[pt g, .func (.func gw) #[] cw, .func (.func gd) #[] cd] w fun r w' => r = .returned (.int .i64 (actE d code)) ∧ DiskStep w w' base g S (actD d code c) := by
  unfold actE actD
  cases hoff : offD d with
  | true => simpa using act_off w base g S d h hoff _ _
  | false =>
    by_cases hc : code = 0
    · subst hc
      have := act_do w base g S d h hs hoff gw cw eg hw gd cd ed c hf
      unfold actD at this
      simpa [hoff] using this
    · have := act_wrong w base g S d h hoff gw cw eg code hc hw (.func (.func gd) #[] cd)
      simpa [hc] using this
section
variable {w w1 w' : World} {base g : Nat} {S : Nat → Prop} {d : D}
theorem Turns.cell {S : Nat → Prop} {a b : World} {p : Addr} {v : Value} (h : Turns S a b) (hc : a.cell? p = some v) (hn : ¬ S p.block) : b.cell? p = some v := by
  have hb := h.block p.block (World.block_lt_of_cell? a _ hc) hn
  unfold World.cell? at hc ⊢
  rw [hb]
  exact hc
theorem DiskStep.of_below (k : Below w.heap.size w w1) (h : DiskStep w1 w' base g S d) : DiskStep w w' base g S d := by
  obtain ⟨S', h1, h2, h3⟩ := h
  have hz := k.size
  exact ⟨S', h1, fun i hi => by rcases h2 i hi with h | h; exact .inl h; exact .inr (by omega), (Turns.of_below k S).trans h3 (fun _ h => .inl h)⟩
/-- A block that has come since is none of the disk's. -/
theorem DiskAt.fresh (h : DiskAt w base g S d) {b : Nat} (hb : w.heap.size ≤ b) : ¬ S b := fun hS => by have := (h.lt b hS).1; omega
theorem box_new {v : Value} {b : Nat} (h : DiskAt w base g S d) (hb : w.heap.size ≤ b) (hc : w1.cell? ⟨b, 0, none⟩ = some v) : Box w1 S b v := ⟨hc, h.fresh hb⟩
end
theorem cell_alloc {w : World} {n : Nat} (hn : n = w.heap.size) (v : Value) (t : TypeId) : (w.alloc (.cells #[v] t)).cell? ⟨n, 0, none⟩ = some v := by
  subst hn
  simp
theorem cell_alloc_old {w : World} {p : Addr} {v : Value} (o : Obj) (h : w.cell? p = some v) : (w.alloc o).cell? p = some v := (((Below.refl _ w).alloc (Nat.le_refl _) o).cell (World.block_lt_of_cell? w _ h)).trans h
theorem enters_w1 : ∀ args w, (callFunc 34 args).run Try.prog w = .ok (.enter 34 args) w := enters_of Try.func34 (by kernel_rfl) rfl
theorem enters_w2 : ∀ args w, (callFunc 36 args).run Try.prog w = .ok (.enter 36 args) w := enters_of Try.func36 (by kernel_rfl) rfl
theorem enters_n1 : ∀ args w, (callFunc 39 args).run Try.prog w = .ok (.enter 39 args) w := enters_of Try.func39 (by kernel_rfl) rfl
theorem enters_n2 : ∀ args w, (callFunc 41 args).run Try.prog w = .ok (.enter 41 args) w := enters_of Try.func41 (by kernel_rfl) rfl
theorem enters_m1 : ∀ args w, (callFunc 59 args).run Try.prog w = .ok (.enter 59 args) w := enters_of Try.func59 (by kernel_rfl) rfl
theorem enters_m2 : ∀ args w, (callFunc 60 args).run Try.prog w = .ok (.enter 60 args) w := enters_of Try.func60 (by kernel_rfl) rfl
theorem enters_s1 : ∀ args w, (callFunc 37 args).run Try.prog w = .ok (.enter 37 args) w := enters_of Try.func37 (by kernel_rfl) rfl
def remE (d : D) (s : ByteArray) : Int := actE d (noneE d s)
def remD (d : D) (s : ByteArray) : D := actD d (noneE d s) ⟨2, s, ByteArray.empty, []⟩
set_option maxRecDepth 100000 in
set_option maxHeartbeats 2000000 in
theorem remove_any (w : World) (base g : Nat) (S : Nat → Prop) (d : D) (h : DiskAt w base g S d) (hsm : Small d) (s : ByteArray) (hs : s.size ≤ maxLen) :
    Calls Try.prog 42 #[pt g, .string s] w fun r w' => r = .returned (.int .i64 (remE d s)) ∧ DiskStep w w' base g S (remD d s) := by
  obtain ⟨w2, hw2⟩ : ∃ w2, w2 = (w.alloc (.cells #[pt g] 24)).alloc (.cells #[.string s] 9) := ⟨_, rfl⟩
  have hB : Below w.heap.size w w2 := by rw [hw2]; exact (((Below.refl _ _).alloc (Nat.le_refl _) _).alloc (by simp) _)
  have e0 : w2.cell? ⟨w.heap.size, 0, none⟩ = some (pt g) := by
    rw [hw2]
    exact cell_alloc_old _ (cell_alloc rfl _ _)
  have e1 : w2.cell? ⟨w.heap.size + 1, 0, none⟩ = some (.string s) := by rw [hw2]; exact cell_alloc (by simp) _ _
  have hD := h.below hB
  have f0 : ¬ S w.heap.size := h.fresh (Nat.le_refl _)
  have f1 : ¬ S (w.heap.size + 1) := h.fresh (Nat.le_succ _)
  have hgl := h.glt
  have hf : FnAt w2 S (60, #[pt (w.heap.size + 1)]) ⟨2, s, ByteArray.empty, []⟩ := ⟨hs, Nat.zero_le _, .inr (.inr ⟨rfl, _, rfl, e1, f1⟩)⟩
  have ha := act_any w2 base g S d hD hsm _ #[pt w.heap.size, pt (w.heap.size + 1)] enters_m1 (noneE d s) (fun W hT hDW => wrong_remove W base g S d hDW s hs _ _ (hT.cell e0 (show w.heap.size ≠ g by omega)) (hT.cell e1 (show w.heap.size + 1 ≠ g by omega))) _ _ enters_m2 _ hf
  unfold remE remD
  obtain ⟨code, hcode⟩ : ∃ code, code = actE d (noneE d s) := ⟨_, rfl⟩
  obtain ⟨d', hd'⟩ : ∃ d', d' = actD d (noneE d s) ⟨2, s, ByteArray.empty, []⟩ := ⟨_, rfl⟩
  rw [← hcode, ← hd'] at ha ⊢
  have HA := Lib.hid ha
  have HB := Lib.hid hB
  have HW := Lib.hid hw2
  clear h hsm ha hB hD hf hcode hd' e0 e1 hw2
  go_enter Try.func42, Try.ntmps42
  go_wp2_with fail
  rw [← HW.out]
  refine HA.out.mono ?_
  rintro r w' ⟨rfl, hst⟩
  have HS := Lib.hid hst
  clear hst
  go_wp2_with fail
  go_ret
  exact ⟨rfl, HS.out.of_below HB.out⟩
def renameE (d : D) (s t : ByteArray) : Int := actE d (renE d s t)
def renameD (d : D) (s t : ByteArray) : D := actD d (renE d s t) ⟨1, s, t, []⟩
set_option maxRecDepth 100000 in
set_option maxHeartbeats 2000000 in
theorem rename_any (w : World) (base g : Nat) (S : Nat → Prop) (d : D) (h : DiskAt w base g S d) (hsm : Small d) (s t : ByteArray) (hs : s.size ≤ maxLen) (ht : t.size ≤ maxLen) :
    Calls Try.prog 14 #[pt g, .string s, .string t] w fun r w' => r = .returned (.int .i64 (renameE d s t)) ∧ DiskStep w w' base g S (renameD d s t) := by
  obtain ⟨w2, hw2⟩ : ∃ w2, w2 = ((w.alloc (.cells #[pt g] 24)).alloc (.cells #[.string s] 9)).alloc (.cells #[.string t] 9) := ⟨_, rfl⟩
  have hB : Below w.heap.size w w2 := by rw [hw2]; exact (((Below.refl _ _).alloc (Nat.le_refl _) _).alloc (by simp) _).alloc (by simp; omega) _
  have e0 : w2.cell? ⟨w.heap.size, 0, none⟩ = some (pt g) := by
    rw [hw2]
    exact cell_alloc_old _ (cell_alloc_old _ (cell_alloc rfl _ _))
  have e1 : w2.cell? ⟨w.heap.size + 1, 0, none⟩ = some (.string s) := by rw [hw2]; exact cell_alloc_old _ (cell_alloc (by simp) _ _)
  have e2 : w2.cell? ⟨w.heap.size + 1 + 1, 0, none⟩ = some (.string t) := by rw [hw2]; exact cell_alloc (by simp) _ _
  have hD := h.below hB
  have f1 : ¬ S (w.heap.size + 1) := h.fresh (Nat.le_succ _)
  have f2 : ¬ S (w.heap.size + 1 + 1) := h.fresh (by omega)
  have hgl := h.glt
  have hf : FnAt w2 S (41, #[pt (w.heap.size + 1), pt (w.heap.size + 1 + 1)]) ⟨1, s, t, []⟩ := ⟨hs, ht, .inr (.inl ⟨rfl, _, _, rfl, ⟨e1, f1⟩, ⟨e2, f2⟩⟩)⟩
  have ha := act_any w2 base g S d hD hsm _ #[pt (w.heap.size + 1 + 1), pt w.heap.size, pt (w.heap.size + 1)] enters_n1 (renE d s t) (fun W hT hDW => wrong_rename W base g S d hDW s t hs _ _ _ (hT.cell e0 (show w.heap.size ≠ g by omega)) (hT.cell e1 (show w.heap.size + 1 ≠ g by omega)) (hT.cell e2 (show w.heap.size + 1 + 1 ≠ g by omega))) _ _ enters_n2 _ hf
  unfold renameE renameD
  obtain ⟨code, hcode⟩ : ∃ code, code = actE d (renE d s t) := ⟨_, rfl⟩
  obtain ⟨d', hd'⟩ : ∃ d', d' = actD d (renE d s t) ⟨1, s, t, []⟩ := ⟨_, rfl⟩
  rw [← hcode, ← hd'] at ha ⊢
  have HA := Lib.hid ha
  have HB := Lib.hid hB
  have HW := Lib.hid hw2
  clear h hsm ha hB hD hf hcode hd' e0 e1 e2 hw2
  go_enter Try.func14, Try.ntmps14
  go_wp2_with fail
  rw [← HW.out]
  refine HA.out.mono ?_
  rintro r w' ⟨rfl, hst⟩
  have HS := Lib.hid hst
  clear hst
  go_wp2_with fail
  go_ret
  exact ⟨rfl, HS.out.of_below HB.out⟩
def writeE (d : D) (s : ByteArray) (l : List Int) : Int := actE d (wrE d s l.length)
def writeD (d : D) (s : ByteArray) (l : List Int) : D := actD d (wrE d s l.length) ⟨0, s, ByteArray.empty, l⟩
set_option maxRecDepth 100000 in
set_option maxHeartbeats 2000000 in
theorem write_any (w : World) (base g : Nat) (S : Nat → Prop) (d : D) (h : DiskAt w base g S d) (hsm : Small d) (s : ByteArray) (hs : s.size ≤ maxLen) (A : Option Addr) (n c : Nat) (l : List Int) (hl : l.length = n) (hC : Kd.C (Kd.int .u8) w A n l) (hc : n ≤ c) (hn : n ≤ 140737488351232) :
    Calls Try.prog 12 #[pt g, .string s, .slice A n c] w fun r w' => r = .returned (.int .i64 (writeE d s l)) ∧ DiskStep w w' base g S (writeD d s l) := by
  obtain ⟨w2, hw2⟩ : ∃ w2, w2 = ((w.alloc (.cells #[pt g] 24)).alloc (.cells #[.string s] 9)).alloc (.cells #[.slice A n c] 22) := ⟨_, rfl⟩
  have hB : Below w.heap.size w w2 := by rw [hw2]; exact (((Below.refl _ _).alloc (Nat.le_refl _) _).alloc (by simp) _).alloc (by simp; omega) _
  have hz : w2.heap.size = w.heap.size + 3 := by rw [hw2]; simp
  have e0 : w2.cell? ⟨w.heap.size, 0, none⟩ = some (pt g) := by
    rw [hw2]
    exact cell_alloc_old _ (cell_alloc_old _ (cell_alloc rfl _ _))
  have e1 : w2.cell? ⟨w.heap.size + 1, 0, none⟩ = some (.string s) := by rw [hw2]; exact cell_alloc_old _ (cell_alloc (by simp) _ _)
  have b2 : w2.heap[w.heap.size + 1 + 1]? = some (.cells #[.slice A n c] 22 (0, 0)) := by
    rw [hw2]
    have := heap_alloc_new (((w.alloc (.cells #[pt g] 24)).alloc (.cells #[.string s] 9))) (.cells #[.slice A n c] 22)
    simpa using this
  have hD := h.below hB
  have hgl := h.glt
  have hcl := clone_any A c l w2 (by rw [hl]; exact Kd.C_below hC hB) (by omega) (by omega)
  rw [hl] at hcl
  have HH := Lib.hid h
  have HD := Lib.hid hD
  have HSM := Lib.hid hsm
  have HB := Lib.hid hB
  have HW := Lib.hid hw2
  have HCL := Lib.hid hcl
  have HL := Lib.hid hl
  have HZ := Lib.hid hz
  have HE := Lib.hid (And.intro e0 (And.intro e1 b2))
  obtain ⟨code, hcode⟩ : ∃ code, code = writeE d s l := ⟨_, rfl⟩
  obtain ⟨d', hd'⟩ : ∃ d', d' = writeD d s l := ⟨_, rfl⟩
  rw [← hcode, ← hd']
  have HCD := Lib.hid (And.intro hcode hd')
  clear h hsm hB hD hcl e0 e1 b2 hl hC hw2 hz hc hcode hd'
  go_enter Try.func12, Try.ntmps12
  go_wp2_with fail
  rw [← HW.out]
  refine HCL.out.mono ?_
  rintro r w3 ⟨v, rfl, hR, hB3⟩
  have HB3 := Lib.hid hB3
  have b2 := (hB3.block (w.heap.size + 1 + 1) (by rw [HZ.out]; omega)).trans HE.out.2.2
  have c2 : w3.cell? ⟨w.heap.size + 1 + 1, 0, none⟩ = some (.slice A n c) := by simpa using blk_cell b2 0
  have q2 := blk_frozen b2 0
  have l2 := blk_lt b2
  obtain ⟨A3, c3, rfl, hc3, _⟩ := Kd.R_reads hR
  have HR := Lib.hid hR
  have HB2 := Lib.hid b2
  have e03 : w3.cell? ⟨w.heap.size, 0, none⟩ = some (pt g) := (hB3.cell (p := ⟨w.heap.size, 0, none⟩) (by show w.heap.size < _; rw [HZ.out]; omega)).trans HE.out.1
  clear hR hB3 b2 hc3
  go_wp2_with fail
  have hz3 := HB3.out.size
  rw [HZ.out] at hz3
  obtain ⟨w4, hw4⟩ : ∃ w4, w4 = w3.setCell ⟨w.heap.size + 1 + 1, 0, none⟩ (.slice A3 l.length c3) := ⟨_, rfl⟩
  rw [← hw4]
  have hB4 : Below w.heap.size w w4 := by
    have h3 : Below w.heap.size w w3 := below_then HB.out HB.out.size HB3.out
    rw [hw4]
    exact ((Turns.of_below h3 (fun _ => False)).set (p := ⟨w.heap.size + 1 + 1, 0, none⟩) (.inr (by show w.heap.size ≤ w.heap.size + 1 + 1; omega)) _).toBelow (Nat.le_refl _) (fun _ h => h.elim)
  have kT : Turns (fun k => k = w.heap.size + 1 + 1) w3 w4 := by rw [hw4]; exact (Turns.refl (fun k => k = w.heap.size + 1 + 1) w3).set (p := ⟨w.heap.size + 1 + 1, 0, none⟩) (.inl rfl) _
  have e0 : w4.cell? ⟨w.heap.size, 0, none⟩ = some (pt g) := kT.cell ((HB3.out.cell (p := ⟨w.heap.size, 0, none⟩) (by show w.heap.size < _; rw [HZ.out]; omega)).trans HE.out.1) (show w.heap.size ≠ w.heap.size + 1 + 1 by omega)
  have e1 : w4.cell? ⟨w.heap.size + 1, 0, none⟩ = some (.string s) := kT.cell ((HB3.out.cell (p := ⟨w.heap.size + 1, 0, none⟩) (by show w.heap.size + 1 < _; rw [HZ.out]; omega)).trans HE.out.2.1) (show w.heap.size + 1 ≠ w.heap.size + 1 + 1 by omega)
  have e2 : w4.cell? ⟨w.heap.size + 1 + 1, 0, none⟩ = some (.slice A3 l.length c3) := by
    have := blk_set HB2.out 0 (.slice A3 l.length c3)
    rw [hw4]
    simpa using blk_cell this 0
  have f1 : ¬ S (w.heap.size + 1) := HH.out.fresh (Nat.le_succ _)
  have f2 : ¬ S (w.heap.size + 1 + 1) := HH.out.fresh (by omega)
  have hD4 := HH.out.below hB4
  have hR4 : Kd.R (Kd.int .u8) 5 w4 0 (fun k => w2.heap.size ≤ k) (.slice A3 l.length c3) l := by
    rw [hw4]
    exact Kd.R_far (p := ⟨w.heap.size + 1 + 1, 0, none⟩) (Kd.R_lower (Kd.R_mono (Kd.R_bound HR.out) (fun k hk => hk.2.1)) (Nat.zero_le _)) (fun k hk => by
      have hk' : w2.heap.size ≤ k := hk
      show k ≠ w.heap.size + 1 + 1
      rw [HZ.out] at hk'
      omega) _
  have ht4 : TextAt w4 S (.slice A3 l.length c3) l := ⟨_, hR4, fun k hk hS => by
    have hk' : w2.heap.size ≤ k := hk
    have := (HH.out.lt k hS).1
    rw [HZ.out] at hk'
    omega⟩
  have hf : FnAt w4 S (36, #[pt (w.heap.size + 1 + 1), pt (w.heap.size + 1)]) ⟨0, s, ByteArray.empty, l⟩ := ⟨hs, Nat.zero_le _, .inl ⟨rfl, _, _, _, rfl, ⟨e2, f2⟩, ht4, ⟨e1, f1⟩⟩⟩
  have ha := act_any w4 base g S d hD4 HSM.out _ #[pt w.heap.size, pt (w.heap.size + 1), pt (w.heap.size + 1 + 1)] enters_w1 (wrE d s l.length) (fun W hT hDW => wrong_write W base g S d hDW HSM.out s hs _ _ _ _ _ _ (hT.cell e0 (show w.heap.size ≠ g by omega)) (hT.cell e1 (show w.heap.size + 1 ≠ g by omega)) (hT.cell e2 (show w.heap.size + 1 + 1 ≠ g by omega)) (by rw [HL.out]; exact hn)) _ _ enters_w2 _ hf
  rw [show actE d (wrE d s l.length) = code from HCD.out.1.symm, show actD d (wrE d s l.length) ⟨0, s, ByteArray.empty, l⟩ = d' from HCD.out.2.symm] at ha
  have HA := Lib.hid ha
  have HB4 := Lib.hid hB4
  clear ha hB4 kT hR4 ht4 hf f1 f2 hD4 c2 q2 l2 e1 e2 hw4
  refine HA.out.mono ?_
  rintro r w' ⟨rfl, hst⟩
  have HS := Lib.hid hst
  clear hst
  go_wp2_with fail
  go_ret
  exact ⟨rfl, HS.out.of_below HB4.out⟩
end Go.Proofs.Ytbfpmlblnfablaa
