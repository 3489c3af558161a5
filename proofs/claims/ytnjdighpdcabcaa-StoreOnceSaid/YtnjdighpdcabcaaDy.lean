/- Write, Rename, Remove. -/
import Derived.Test.YtnjdighpdcabcaaDiskX
import Derived.Test.YtnjdighpdcabcaaShelf
import Derived.Lib.SlBytesConst
import Derived.Lib.Strings
set_option linter.unusedVariables false
set_option linter.unusedSimpArgs false
namespace Go.Proofs.Ytnjdighpdcabcaa
open Go.RowKit Go.Proofs.YtnjdighpdcabcaaW.PrintWords Go.Proofs.YtnjdighpdcabcaaW.PrintLast Go.Proofs.YtnjdighpdcabcaaW.PrintMore

theorem act_any (w : World) (base g : Nat) (S : Nat → Prop) (d : D) (h : DiskAt w base g S d) (hs : Small d) (gw : Nat) (cw : Array Value) (eg : ∀ args w, (callFunc gw args).run Try.prog w = .ok (.enter gw args) w) (code : Int)
    (hw : ∀ W, Turns (fun k => k = g) w W → DiskAt W base g S d → Calls Try.prog gw cw W fun e w' => e = .returned (.int .i64 code) ∧ Below W.heap.size W w') (gd : Nat) (cd : Array Value) (ed : ∀ args w, (callFunc gd args).run Try.prog w = .ok (.enter gd args) w)
    (c : Chg) (hf : FnAt w S (gd, cd) c) :
    Calls Try.prog 29 #[pt g, .func (.func gw) #[] cw, .func (.func gd) #[] cd] w fun r w' => r = .returned (.int .i64 (actE d code)) ∧ DiskStep w w' base g S (actD d code c) := by
  unfold actE actD
  cases hoff : offD d with
  | true => simpa using act_off w base g S d h hoff _ _
  | false =>
    by_cases hc : code = 0
    · subst hc
      have := act_do w base g S d h hs hoff gw cw eg hw gd cd ed c hf
      unfold actD at this
      simpa [hoff] using this
    · have := act_wrong w base g S d h hoff gw cw eg code hc hw (.func (.func gd) #[] cd)
      simpa [hc] using this
section
variable {w w1 w' : World} {base g : Nat} {S : Nat → Prop} {d : D}
theorem Turns.cell {S : Nat → Prop} {a b : World} {p : Addr} {v : Value} (h : Turns S a b) (hc : a.cell? p = some v) (hn : ¬ S p.block) : b.cell? p = some v := by
  have hb := h.block p.block (World.block_lt_of_cell? a _ hc) hn
  unfold World.cell? at hc ⊢
  rw [hb]
  exact hc
theorem DiskStep.of_below (k : Below w.heap.size w w1) (h : DiskStep w1 w' base g S d) : DiskStep w w' base g S d := by
  obtain ⟨S', h1, h2, h3⟩ := h
  have hz := k.size
  exact ⟨S', h1, fun i hi => by rcases h2 i hi with h | h; exact .inl h; exact .inr (by omega), (Turns.of_below k S).trans h3 (fun _ h => .inl h)⟩
/-- A block that has come since is none of the disk's. -/
theorem DiskAt.fresh (h : DiskAt w base g S d) {b : Nat} (hb : w.heap.size ≤ b) : ¬ S b := fun hS => by have := (h.lt b hS).1; omega
theorem box_new {v : Value} {b : Nat} (h : DiskAt w base g S d) (hb : w.heap.size ≤ b) (hc : w1.cell? ⟨b, 0, none⟩ = some v) : Box w1 S b v := ⟨hc, h.fresh hb⟩
end
theorem cell_alloc {w : World} {n : Nat} (hn : n = w.heap.size) (v : Value) (t : TypeId) : (w.alloc (.cells #[v] t)).cell? ⟨n, 0, none⟩ = some v := by
  subst hn
  simp
theorem cell_alloc_old {w : World} {p : Addr} {v : Value} (o : Obj) (h : w.cell? p = some v) : (w.alloc o).cell? p = some v := (((Below.refl _ w).alloc (Nat.le_refl _) o).cell (World.block_lt_of_cell? w _ h)).trans h
theorem enters_w1 : ∀ args w, (callFunc 30 args).run Try.prog w = .ok (.enter 30 args) w := enters_of Try.func30 (by kernel_rfl) rfl
theorem enters_w2 : ∀ args w, (callFunc 33 args).run Try.prog w = .ok (.enter 33 args) w := enters_of Try.func33 (by kernel_rfl) rfl
theorem enters_n1 : ∀ args w, (callFunc 45 args).run Try.prog w = .ok (.enter 45 args) w := enters_of Try.func45 (by kernel_rfl) rfl
theorem enters_n2 : ∀ args w, (callFunc 47 args).run Try.prog w = .ok (.enter 47 args) w := enters_of Try.func47 (by kernel_rfl) rfl
theorem enters_s1 : ∀ args w, (callFunc 44 args).run Try.prog w = .ok (.enter 44 args) w := enters_of Try.func44 (by kernel_rfl) rfl
def remE (d : D) (s : ByteArray) : Int := actE d (noneE d s)
def remD (d : D) (s : ByteArray) : D := actD d (noneE d s) ⟨2, s, ByteArray.empty, []⟩
def renameE (d : D) (s t : ByteArray) : Int := actE d (renE d s t)
def renameD (d : D) (s t : ByteArray) : D := actD d (renE d s t) ⟨1, s, t, []⟩
set_option maxRecDepth 100000 in
set_option maxHeartbeats 2000000 in
theorem rename_any (w : World) (base g : Nat) (S : Nat → Prop) (d : D) (h : DiskAt w base g S d) (hsm : Small d) (s t : ByteArray) (hs : s.size ≤ maxLen) (ht : t.size ≤ maxLen) :
    Calls Try.prog 27 #[pt g, .string s, .string t] w fun r w' => r = .returned (.int .i64 (renameE d s t)) ∧ DiskStep w w' base g S (renameD d s t) := by
  obtain ⟨w2, hw2⟩ : ∃ w2, w2 = ((w.alloc (.cells #[pt g] 23)).alloc (.cells #[.string s] 9)).alloc (.cells #[.string t] 9) := ⟨_, rfl⟩
  have hB : Below w.heap.size w w2 := by rw [hw2]; exact (((Below.refl _ _).alloc (Nat.le_refl _) _).alloc (by simp) _).alloc (by simp; omega) _
  have e0 : w2.cell? ⟨w.heap.size, 0, none⟩ = some (pt g) := by
    rw [hw2]
    exact cell_alloc_old _ (cell_alloc_old _ (cell_alloc rfl _ _))
  have e1 : w2.cell? ⟨w.heap.size + 1, 0, none⟩ = some (.string s) := by rw [hw2]; exact cell_alloc_old _ (cell_alloc (by simp) _ _)
  have e2 : w2.cell? ⟨w.heap.size + 1 + 1, 0, none⟩ = some (.string t) := by rw [hw2]; exact cell_alloc (by simp) _ _
  have hD := h.below hB
  have f1 : ¬ S (w.heap.size + 1) := h.fresh (Nat.le_succ _)
  have f2 : ¬ S (w.heap.size + 1 + 1) := h.fresh (by omega)
  have hgl := h.glt
  have hf : FnAt w2 S (47, #[pt (w.heap.size + 1), pt (w.heap.size + 1 + 1)]) ⟨1, s, t, []⟩ := ⟨hs, ht, .inr (.inl ⟨rfl, _, _, rfl, ⟨e1, f1⟩, ⟨e2, f2⟩⟩)⟩
  have ha := act_any w2 base g S d hD hsm _ #[pt (w.heap.size + 1 + 1), pt w.heap.size, pt (w.heap.size + 1)] enters_n1 (renE d s t) (fun W hT hDW => wrong_rename W base g S d hDW s t hs _ _ _ (hT.cell e0 (show w.heap.size ≠ g by omega)) (hT.cell e1 (show w.heap.size + 1 ≠ g by omega)) (hT.cell e2 (show w.heap.size + 1 + 1 ≠ g by omega))) _ _ enters_n2 _ hf
  unfold renameE renameD
  obtain ⟨code, hcode⟩ : ∃ code, code = actE d (renE d s t) := ⟨_, rfl⟩
  obtain ⟨d', hd'⟩ : ∃ d', d' = actD d (renE d s t) ⟨1, s, t, []⟩ := ⟨_, rfl⟩
  rw [← hcode, ← hd'] at ha ⊢
  have HA := Lib.hid ha
  have HB := Lib.hid hB
  have HW := Lib.hid hw2
  clear h hsm ha hB hD hf hcode hd' e0 e1 e2 hw2
  go_enter Try.func27, Try.ntmps27
  go_wp2_with fail
  rw [← HW.out]
  refine HA.out.mono ?_
  rintro r w' ⟨rfl, hst⟩
  have HS := Lib.hid hst
  clear hst
  go_wp2_with fail
  go_ret
  exact ⟨rfl, HS.out.of_below HB.out⟩
def writeE (d : D) (s : ByteArray) (l : List Int) : Int := actE d (wrE d s l.length)
def writeD (d : D) (s : ByteArray) (l : List Int) : D := actD d (wrE d s l.length) ⟨0, s, ByteArray.empty, l⟩
set_option maxRecDepth 100000 in
set_option maxHeartbeats 2000000 in
theorem write_any (w : World) (base g : Nat) (S : Nat → Prop) (d : D) (h : DiskAt w base g S d) (hsm : Small d) (s : ByteArray) (hs : s.size ≤ maxLen) (A : Option Addr) (n c : Nat) (l : List Int) (hl : l.length = n) (hC : Kd.C (Kd.int .u8) w A n l) (hc : n ≤ c) (hn : n ≤ 140737488351232) :
    Calls Try.prog 12 #[pt g, .string s, .slice A n c] w fun r w' => r = .returned (.int .i64 (writeE d s l)) ∧ DiskStep w w' base g S (writeD d s l) := by
  obtain ⟨w2, hw2⟩ : ∃ w2, w2 = ((w.alloc (.cells #[pt g] 23)).alloc (.cells #[.string s] 9)).alloc (.cells #[.slice A n c] 32) := ⟨_, rfl⟩
  have hB : Below w.heap.size w w2 := by rw [hw2]; exact (((Below.refl _ _).alloc (Nat.le_refl _) _).alloc (by simp) _).alloc (by simp; omega) _
  have hz : w2.heap.size = w.heap.size + 3 := by rw [hw2]; simp
  have e0 : w2.cell? ⟨w.heap.size, 0, none⟩ = some (pt g) := by
    rw [hw2]
    exact cell_alloc_old _ (cell_alloc_old _ (cell_alloc rfl _ _))
  have e1 : w2.cell? ⟨w.heap.size + 1, 0, none⟩ = some (.string s) := by rw [hw2]; exact cell_alloc_old _ (cell_alloc (by simp) _ _)
  have b2 : w2.heap[w.heap.size + 1 + 1]? = some (.cells #[.slice A n c] 32 (0, 0)) := by
    rw [hw2]
    have := heap_alloc_new (((w.alloc (.cells #[pt g] 23)).alloc (.cells #[.string s] 9))) (.cells #[.slice A n c] 32)
    simpa using this
  have hD := h.below hB
  have hgl := h.glt
  have hcl := clone_any A c l w2 (by rw [hl]; exact Kd.C_below hC hB) (by omega) (by omega)
  rw [hl] at hcl
  have HH := Lib.hid h
  have HD := Lib.hid hD
  have HSM := Lib.hid hsm
  have HB := Lib.hid hB
  have HW := Lib.hid hw2
  have HCL := Lib.hid hcl
  have HL := Lib.hid hl
  have HZ := Lib.hid hz
  have HE := Lib.hid (And.intro e0 (And.intro e1 b2))
  obtain ⟨code, hcode⟩ : ∃ code, code = writeE d s l := ⟨_, rfl⟩
  obtain ⟨d', hd'⟩ : ∃ d', d' = writeD d s l := ⟨_, rfl⟩
  rw [← hcode, ← hd']
  have HCD := Lib.hid (And.intro hcode hd')
  clear h hsm hB hD hcl e0 e1 b2 hl hC hw2 hz hc hcode hd'
  go_enter Try.func12, Try.ntmps12
  go_wp2_with fail
  rw [← HW.out]
  refine HCL.out.mono ?_
  rintro r w3 ⟨v, rfl, hR, hB3⟩
  have HB3 := Lib.hid hB3
  have b2 := (hB3.block (w.heap.size + 1 + 1) (by rw [HZ.out]; omega)).trans HE.out.2.2
  have c2 : w3.cell? ⟨w.heap.size + 1 + 1, 0, none⟩ = some (.slice A n c) := by simpa using blk_cell b2 0
  have q2 := blk_frozen b2 0
  have l2 := blk_lt b2
  obtain ⟨A3, c3, rfl, hc3, _⟩ := Kd.R_reads hR
  have HR := Lib.hid hR
  have HB2 := Lib.hid b2
  have e03 : w3.cell? ⟨w.heap.size, 0, none⟩ = some (pt g) := (hB3.cell (p := ⟨w.heap.size, 0, none⟩) (by show w.heap.size < _; rw [HZ.out]; omega)).trans HE.out.1
  clear hR hB3 b2 hc3
  go_wp2_with fail
  have hz3 := HB3.out.size
  rw [HZ.out] at hz3
  obtain ⟨w4, hw4⟩ : ∃ w4, w4 = w3.setCell ⟨w.heap.size + 1 + 1, 0, none⟩ (.slice A3 l.length c3) := ⟨_, rfl⟩
  rw [← hw4]
  have hB4 : Below w.heap.size w w4 := by
    have h3 : Below w.heap.size w w3 := below_then HB.out HB.out.size HB3.out
    rw [hw4]
    exact ((Turns.of_below h3 (fun _ => False)).set (p := ⟨w.heap.size + 1 + 1, 0, none⟩) (.inr (by show w.heap.size ≤ w.heap.size + 1 + 1; omega)) _).toBelow (Nat.le_refl _) (fun _ h => h.elim)
  have kT : Turns (fun k => k = w.heap.size + 1 + 1) w3 w4 := by rw [hw4]; exact (Turns.refl (fun k => k = w.heap.size + 1 + 1) w3).set (p := ⟨w.heap.size + 1 + 1, 0, none⟩) (.inl rfl) _
  have e0 : w4.cell? ⟨w.heap.size, 0, none⟩ = some (pt g) := kT.cell ((HB3.out.cell (p := ⟨w.heap.size, 0, none⟩) (by show w.heap.size < _; rw [HZ.out]; omega)).trans HE.out.1) (show w.heap.size ≠ w.heap.size + 1 + 1 by omega)
  have e1 : w4.cell? ⟨w.heap.size + 1, 0, none⟩ = some (.string s) := kT.cell ((HB3.out.cell (p := ⟨w.heap.size + 1, 0, none⟩) (by show w.heap.size + 1 < _; rw [HZ.out]; omega)).trans HE.out.2.1) (show w.heap.size + 1 ≠ w.heap.size + 1 + 1 by omega)
  have e2 : w4.cell? ⟨w.heap.size + 1 + 1, 0, none⟩ = some (.slice A3 l.length c3) := by
    have := blk_set HB2.out 0 (.slice A3 l.length c3)
    rw [hw4]
    simpa using blk_cell this 0
  have f1 : ¬ S (w.heap.size + 1) := HH.out.fresh (Nat.le_succ _)
  have f2 : ¬ S (w.heap.size + 1 + 1) := HH.out.fresh (by omega)
  have hD4 := HH.out.below hB4
  have hR4 : Kd.R (Kd.int .u8) 5 w4 0 (fun k => w2.heap.size ≤ k) (.slice A3 l.length c3) l := by
    rw [hw4]
    exact Kd.R_far (p := ⟨w.heap.size + 1 + 1, 0, none⟩) (Kd.R_lower (Kd.R_mono (Kd.R_bound HR.out) (fun k hk => hk.2.1)) (Nat.zero_le _)) (fun k hk => by
      have hk' : w2.heap.size ≤ k := hk
      show k ≠ w.heap.size + 1 + 1
      rw [HZ.out] at hk'
      omega) _
  have ht4 : TextAt w4 S (.slice A3 l.length c3) l := ⟨_, hR4, fun k hk hS => by
    have hk' : w2.heap.size ≤ k := hk
    have := (HH.out.lt k hS).1
    rw [HZ.out] at hk'
    omega⟩
  have hf : FnAt w4 S (33, #[pt (w.heap.size + 1 + 1), pt (w.heap.size + 1)]) ⟨0, s, ByteArray.empty, l⟩ := ⟨hs, Nat.zero_le _, .inl ⟨rfl, _, _, _, rfl, ⟨e2, f2⟩, ht4, ⟨e1, f1⟩⟩⟩
  have ha := act_any w4 base g S d hD4 HSM.out _ #[pt w.heap.size, pt (w.heap.size + 1), pt (w.heap.size + 1 + 1)] enters_w1 (wrE d s l.length) (fun W hT hDW => wrong_write W base g S d hDW HSM.out s hs _ _ _ _ _ _ (hT.cell e0 (show w.heap.size ≠ g by omega)) (hT.cell e1 (show w.heap.size + 1 ≠ g by omega)) (hT.cell e2 (show w.heap.size + 1 + 1 ≠ g by omega)) (by rw [HL.out]; exact hn)) _ _ enters_w2 _ hf
  rw [show actE d (wrE d s l.length) = code from HCD.out.1.symm, show actD d (wrE d s l.length) ⟨0, s, ByteArray.empty, l⟩ = d' from HCD.out.2.symm] at ha
  have HA := Lib.hid ha
  have HB4 := Lib.hid hB4
  clear ha hB4 kT hR4 ht4 hf f1 f2 hD4 c2 q2 l2 e1 e2 hw4
  refine HA.out.mono ?_
  rintro r w' ⟨rfl, hst⟩
  have HS := Lib.hid hst
  clear hst
  go_wp2_with fail
  go_ret
  exact ⟨rfl, HS.out.of_below HB4.out⟩
end Go.Proofs.Ytnjdighpdcabcaa
/- Sync, Read, Crash and what is asked of a disk. -/
set_option linter.unusedVariables false
set_option linter.unusedSimpArgs false
namespace Go.Proofs.Ytnjdighpdcabcaa
open Go.RowKit Go.Proofs.YtnjdighpdcabcaaW.PrintWords Go.Proofs.YtnjdighpdcabcaaW.PrintLast Go.Proofs.YtnjdighpdcabcaaW.PrintMore
attribute [local go_sem] max_two

set_option maxRecDepth 100000 in
set_option maxHeartbeats 4000000 in
theorem act_nil (w : World) (base g : Nat) (S : Nat → Prop) (d : D) (h : DiskAt w base g S d) (hs : Small d) (hoff : offD d = false) (gw : Nat) (cw : Array Value) (eg : ∀ args w, (callFunc gw args).run Try.prog w = .ok (.enter gw args) w)
    (hw : ∀ W, Turns (fun k => k = g) w W → DiskAt W base g S d → Calls Try.prog gw cw W fun e w' => e = .returned (.int .i64 0) ∧ Below W.heap.size W w') :
    Calls Try.prog 29 #[pt g, .func (.func gw) #[] cw, .nilFunc] w fun r w' => r = .returned (.int .i64 0) ∧ DiskStep w w' base g S (ranD d) := by
  obtain ⟨bn, bs, vc, cs, Sc, hc, hp⟩ := h.row
  have hgl := h.glt
  have hbase : base ≤ w.heap.size := by have := h.lt g h.own; omega
  obtain ⟨_, _, _, _, _, c5, c6⟩ := cells7 hc
  have f6 := blk_frozen hc 6
  unfold offD at hoff
  obtain ⟨hd, hfu⟩ := Bool.or_eq_false_iff.1 hoff
  have h0 : ¬ d.fuse = 0 := by simpa using hfu
  rw [hd] at c6
  have hT : Turns (fun k => k = g) w (w.setCell ⟨g, 6, none⟩ (.bool false)) := (Turns.refl (fun k => k = g) w).set (p := ⟨g, 6, none⟩) (.inl rfl) _
  have hc1 : DiskCells (w.setCell ⟨g, 6, none⟩ (.bool false)) g d bn bs vc := by
    have hc' := hc
    unfold DiskCells at hc' ⊢
    rw [blk_set hc' 6, hd]
    rfl
  have hp1 := hp.set h.own 6 (.bool false)
  have hD : DiskAt (w.setCell ⟨g, 6, none⟩ (.bool false)) base g S d := ⟨⟨bn, bs, vc, cs, Sc, hc1, hp1⟩, fun i hi => ⟨by simpa [World.setCell] using (h.lt i hi).1, (h.lt i hi).2⟩, h.own⟩
  have hcl := hw _ hT hD
  have hTS : Turns S w (w.setCell ⟨g, 6, none⟩ (.bool false)) := hT.mono (S' := S) (fun i e => by subst e; exact .inl h.own)
  have hq : (d.fuse == 0) = false := by simpa using h0
  have HH := Lib.hid h
  have HT := Lib.hid hTS
  have HD := Lib.hid hD
  have HC1 := Lib.hid hc1
  have HP1 := Lib.hid hp1
  have HSm := Lib.hid hs
  have hdn := Lib.hid hd
  have HOFF := Lib.hid hoff
  have hac := hs.acts
  have hfr := hs.fuse
  obtain ⟨ac, hae⟩ : ∃ ac, ac = d.acts := ⟨_, rfl⟩
  obtain ⟨fu, hfe⟩ : ∃ fu, fu = d.fuse := ⟨_, rfl⟩
  rw [← hae] at hac
  rw [← hfe] at hfr hq c5
  obtain ⟨ha0, ha1⟩ := hac
  obtain ⟨hf0, hf1⟩ := hfr
  have HAE := Lib.hid hae
  have HFE := Lib.hid hfe
  clear h hc hp hoff hfu hd hT hD hw h0 hs hc1 hp1 hTS hae hfe
  go_enter Try.func29, Try.ntmps29
  go_wp2_with fail
  refine hcl.mono ?_
  rintro e w2 ⟨rfl, hB⟩
  have HB := Lib.hid hB
  have hc2 : DiskCells w2 g d bn bs vc := (hB.block g (by simpa [World.setCell] using hgl)).trans HC1.out
  have hp2 := HP1.out.below hB
  have hT2 := HT.out.below hB
  have HC2 := Lib.hid hc2
  have HP2 := Lib.hid hp2
  have HT2 := Lib.hid hT2
  obtain ⟨c0, c1, c2, c3, c4, c5', c6'⟩ := cells7 hc2
  have hg2 : g < w2.heap.size := blk_lt hc2
  have q4 := blk_frozen hc2 4
  have q5 := blk_frozen hc2 5
  have q3 := blk_frozen hc2 3
  rw [← HAE.out] at c4
  rw [← HFE.out] at c5'
  have hnf := nil_is_nil
  obtain ⟨M, hM⟩ : ∃ M, M = max (fu - 1) (-1) := ⟨_, rfl⟩
  have hmx := max_is (fu - 1) (-1) M hM.symm
  have HM := Lib.hid hM
  clear hB hcl hc2 hp2 hT2 HC1 HP1 c5 c6 f6 c0 c2 c6' hq hM
  obtain ⟨w4, hw4⟩ : ∃ w4, w4 = (w2.setCell ⟨g, 4, none⟩ (.int .i64 (ac + 1))).setCell ⟨g, 5, none⟩ (.int .i64 M) := ⟨_, rfl⟩
  have hc4 : DiskCells w4 g { d with down := false, acts := ac + 1, fuse := M } bn bs vc := by
    have hc' := HC2.out
    unfold DiskCells at hc' ⊢
    rw [hw4, blk_set (blk_set hc' 4 _) 5, hdn.out]
    rfl
  have hp4 : Parts w4 base g S bn bs vc cs Sc d.now d.old d.ch := by
    rw [hw4]
    exact (HP2.out.set HH.out.own 4 _).set HH.out.own 5 _
  have hT4 : Turns S w w4 := by
    rw [hw4]
    exact (HT2.out.set (p := ⟨g, 4, none⟩) (.inl HH.out.own) _).set (p := ⟨g, 5, none⟩) (.inl HH.out.own) _
  have HST := Lib.hid (show DiskStep w w4 base g S (ranD d) by
    unfold ranD
    rw [← HAE.out, ← HFE.out, ← HM.out]
    exact ⟨S, ⟨⟨bn, bs, vc, cs, Sc, hc4, hp4⟩, fun i hi => ⟨Nat.lt_of_lt_of_le (HH.out.lt i hi).1 hT4.size, (HH.out.lt i hi).2⟩, HH.out.own⟩, fun _ hk => .inl hk, hT4⟩)
  have HW4 := Lib.hid hw4
  clear hc4 hp4 hT4 hw4
  go_wp2_with fail
  go_ret
  rw [← HW4.out]
  exact ⟨rfl, HST.out⟩
theorem clone_map (w : World) (b : Nat) (vs : List (ByteArray × Value)) (hown : OwnM w b vs) :
    Calls Try.prog 37 #[.map (some b)] w fun e w' => e = .returned (.map (some w.heap.size)) ∧ OwnM w' w.heap.size vs ∧ Below w.heap.size w w' := by
  have hc : Calls Try.prog 37 #[.map (some b)] w fun e w' => e = .returned (.map (some w.heap.size)) ∧ w'.ownsMap Try.prog 9 rdSl w.heap.size vs.length (mapW vs) ∧ w'.ownsMap Try.prog 9 rdSl b vs.length (mapW vs) ∧ Below w.heap.size w w' := AnyW.maps_Clone_owns Try.cloneM _ _ _ _ _ _ hown
  refine hc.mono ?_
  rintro e w' ⟨rfl, h1, _, h2⟩
  exact ⟨rfl, h1, h2⟩
def syncE (d : D) : Int := actE d 0
def syncD (d : D) : D := if offD d = true then { d with down := true } else { ranD d with old := d.now, ch := [] }
section
variable {w w' : World} {base g bn bs : Nat} {S Sc : Nat → Prop} {vc : Value} {cs : List FnV} {d : D}
/-- Memory has come, and with it a map of files: the disk has it as one of its own. -/
theorem MapAt.cloned {nb : Nat} {fs : Files} {vs : List (ByteArray × Value)} (h2 : All2 (FileRow w S) vs fs) (hB : Below w.heap.size w w') (hown : OwnM w' nb vs) {S' : Nat → Prop} (hs : ∀ i, S' i → S i ∨ w.heap.size ≤ i) : MapAt w' S' nb fs :=
  ⟨vs, hown, h2.imp (fun _ _ h => h.step (Turns.of_below hB S) hs)⟩
end
set_option maxRecDepth 100000 in
set_option maxHeartbeats 2000000 in
theorem sync_any (w : World) (base g : Nat) (S : Nat → Prop) (d : D) (h : DiskAt w base g S d) (hsm : Small d) :
    Calls Try.prog 24 #[pt g] w fun r w' => r = .returned (.int .i64 (syncE d)) ∧ DiskStep w w' base g S (syncD d) := by
  unfold syncE actE syncD
  cases hoff : offD d with
  | true =>
    have ha := act_off w base g S d h hoff (.func (.func 44) #[] #[]) .nilFunc
    have HA := Lib.hid ha
    clear ha h hoff hsm
    simp only [if_true]
    go_enter Try.func24, Try.ntmps24
    go_wp2_with fail
    refine HA.out.mono ?_
    rintro r w' ⟨rfl, hst⟩
    have HS := Lib.hid hst
    clear hst
    go_wp2_with fail
    go_ret
    exact ⟨rfl, HS.out⟩
  | false =>
    have ha := act_nil w base g S d h hsm hoff _ #[] enters_s1 (fun W _ _ => wrong_sync W)
    have HA := Lib.hid ha
    have HH := Lib.hid h
    clear ha h hoff hsm
    simp only [Bool.false_eq_true, if_false]
    obtain ⟨d', hd'⟩ : ∃ d' : D, d' = { ranD d with old := d.now, ch := [] } := ⟨_, rfl⟩
    rw [← hd']
    have HD' := Lib.hid hd'
    clear hd'
    go_enter Try.func24, Try.ntmps24
    go_wp2_with fail
    refine HA.out.mono ?_
    rintro r w2 ⟨rfl, S2, hD2, hS2, hT2⟩
    obtain ⟨bn, bs, vc, cs, Sc, hc, hp⟩ := hD2.row
    obtain ⟨vs, hown, h2⟩ := id hp.now
    obtain ⟨_, c1, _, _, _, _, _⟩ := cells7 hc
    have hg2 : g < w2.heap.size := blk_lt hc
    have H2 := Lib.hid (And.intro hD2 (And.intro hS2 (And.intro hT2 (And.intro hc (And.intro hp h2)))))
    have HO := Lib.hid hown
    clear hD2 hS2 hT2 hc hp hown h2
    go_wp2_with fail
    refine (clone_map w2 bn vs HO.out).mono ?_
    rintro r w3 ⟨rfl, ho3, hB3⟩
    have hc3 := (hB3.block g hg2).trans H2.out.2.2.2.1
    have HC3 := Lib.hid hc3
    obtain ⟨_, _, c2, c3, _, _, _⟩ := cells7 hc3
    have q2 := blk_frozen hc3 2
    have q3 := blk_frozen hc3 3
    have hg3 : g < w3.heap.size := blk_lt hc3
    have HO3 := Lib.hid ho3
    have HB3 := Lib.hid hB3
    clear ho3 hB3 hc3
    go_wp2_with fail
    go_ret
    refine ⟨rfl, ?_⟩
    rw [HD'.out]
    obtain ⟨hD2, hS2, hT2, hc, hp, h2⟩ := H2.out
    have hz := HB3.out.size
    have h23 := hT2.size
    have hlt := HO3.out.lt
    have hgw := HH.out.glt
    have kT : Turns (fun k => k = g) w3 ((w3.setCell ⟨g, 2, none⟩ (.map (some w2.heap.size))).setCell ⟨g, 3, none⟩ (.slice none 0 0)) := ((Turns.refl (fun k => k = g) w3).set (p := ⟨g, 2, none⟩) (.inl rfl) _).set (p := ⟨g, 3, none⟩) (.inl rfl) _
    have kT2 : Turns (fun k => k = g) w2 ((w3.setCell ⟨g, 2, none⟩ (.map (some w2.heap.size))).setCell ⟨g, 3, none⟩ (.slice none 0 0)) := (Turns.of_below HB3.out (fun k => k = g)).trans kT (fun _ h => .inl h)
    have hgS : ∀ i, i = g → S2 i := fun i e => by subst e; exact hD2.own
    have hsub : ∀ i, (S2 i ∨ i = w2.heap.size) → S2 i ∨ w2.heap.size ≤ i := fun i hi => by
      rcases hi with h | h
      · exact .inl h
      · exact .inr (by omega)
    refine ⟨fun k => S2 k ∨ k = w2.heap.size, ⟨⟨bn, w2.heap.size, .slice none 0 0, [], fun _ => False, ?_, ⟨?_, ?_, ?_, ?_, ?_, ?_, ?_, ?_⟩⟩, ?_, ?_⟩, ?_, ?_⟩
    · have hc3 := HC3.out
      unfold DiskCells
      rw [blk_set (blk_set hc3 2 _) 3]
      rfl
    · exact hp.now.step kT2 (fun e => hp.ne.2.1 e.symm) hgS hsub
    · refine (MapAt.cloned (S' := fun k => S2 k ∨ k = w2.heap.size) h2 HB3.out HO3.out hsub).step kT (fun e => ?_) (fun i e => .inl (hgS i e)) (fun _ h => .inl h)
      omega
    · exact Kd.R_nil _ _ _ _ _
    · trivial
    · exact fun k hk => hk.elim
    · exact .inl hp.sn
    · exact .inr rfl
    · have := hp.now.lt
      exact ⟨by omega, hp.ne.2.1, by omega⟩
    · intro i hi
      have hzz : ((w3.setCell ⟨g, 2, none⟩ (.map (some w2.heap.size))).setCell ⟨g, 3, none⟩ (.slice none 0 0)).heap.size = w3.heap.size := by simp [World.setCell]
      rw [hzz]
      rcases hi with h | h
      · have := hD2.lt i h
        exact ⟨by omega, this.2⟩
      · have := (hD2.lt g hD2.own)
        exact ⟨by omega, by omega⟩
    · exact .inl hD2.own
    · intro k hk
      rcases hk with h | h
      · exact hS2 k h
      · exact .inr (by omega)
    · exact hT2.trans (kT2.mono (S' := S2) (fun i hi => .inl (hgS i hi))) hS2
end Go.Proofs.Ytnjdighpdcabcaa
/- What is asked of a disk; a fuse; a new disk. -/
set_option linter.unusedVariables false
set_option linter.unusedSimpArgs false
namespace Go.Proofs.Ytnjdighpdcabcaa
open Go.RowKit Go.Proofs.YtnjdighpdcabcaaW.PrintWords Go.Proofs.YtnjdighpdcabcaaW.PrintLast Go.Proofs.YtnjdighpdcabcaaW.PrintMore
attribute [local go_sem] max_two

set_option maxRecDepth 100000 in
theorem acts_any (w : World) (base g : Nat) (S : Nat → Prop) (d : D) (h : DiskAt w base g S d) :
    Calls Try.prog 11 #[pt g] w fun r w' => r = .returned (.int .i64 d.acts) ∧ w' = w := by
  obtain ⟨bn, bs, vc, cs, Sc, hc, hp⟩ := h.row
  obtain ⟨_, _, _, _, c4, _, _⟩ := cells7 hc
  clear h hc hp
  go_enter Try.func11, Try.ntmps11
  go_wp2_with fail
  go_ret
  exact ⟨rfl, rfl⟩
def fuseD (d : D) (n : Int) : D := { d with fuse := max n (-1) }
set_option maxRecDepth 100000 in
theorem fuse_any (w : World) (base g : Nat) (S : Nat → Prop) (d : D) (h : DiskAt w base g S d) (n : Int) :
    Calls Try.prog 14 #[pt g, .int .i64 n] w fun r w' => r = .returned (.tuple #[]) ∧ DiskStep w w' base g S (fuseD d n) := by
  obtain ⟨bn, bs, vc, cs, Sc, hc, hp⟩ := h.row
  have hgl := h.glt
  obtain ⟨_, _, _, _, _, c5, _⟩ := cells7 hc
  have f5 := blk_frozen hc 5
  obtain ⟨M, hM⟩ : ∃ M, M = max n (-1) := ⟨_, rfl⟩
  have hmx := max_is n (-1) M hM.symm
  have hst : DiskStep w (w.setCell ⟨g, 5, none⟩ (.int .i64 M)) base g S (fuseD d n) := DiskAt.of (cells := #[]) h ((Turns.refl S w).set (.inl h.own) _) (by
    unfold fuseD
    rw [← hM]
    unfold DiskCells at hc ⊢
    rw [blk_set hc 5]
    rfl) (hp.set h.own _ _)
  have HS := Lib.hid hst
  clear h hc hp hst hM
  go_enter Try.func14, Try.ntmps14
  go_wp2_with fail
  go_end0
  exact ⟨rfl, HS.out⟩
def readE (d : D) (s : ByteArray) : Int := if d.down = true then 13 else if (look d.now s).isSome = true then 0 else 12
def readB (d : D) (s : ByteArray) : List Int := if d.down = true then [] else (look d.now s).getD []
set_option maxRecDepth 100000 in
set_option maxHeartbeats 2000000 in
theorem read_any (w : World) (base g : Nat) (S : Nat → Prop) (d : D) (h : DiskAt w base g S d) (hsm : Small d) (s : ByteArray) (hs : s.size ≤ maxLen) :
    Calls Try.prog 21 #[pt g, .string s] w fun r w' => ∃ v, r = .returned (.tuple #[v, .int .i64 (readE d s)]) ∧ Kd.R (Kd.int .u8) 5 w' w.heap.size (fun _ => True) v (readB d s) ∧ Below w.heap.size w w' := by
  obtain ⟨bn, bs, vc, cs, Sc, hc, hp⟩ := h.row
  have hgl := h.glt
  obtain ⟨_, c1, _, _, _, _, c6⟩ := cells7 hc
  obtain ⟨vs, hown, h2⟩ := hp.now
  obtain ⟨hq, A, cc, hgo, hcc, hC⟩ := look_row h2 s
  have hlk := hown.look_ok hs
  rw [hgo, hq] at hlk
  have hle : ((look d.now s).getD []).length ≤ 65536000000000 := by
    have h1 := look_used (fs := d.now) (s := s)
    have h2 := used_le d.now hsm.each.1
    have h3 := hsm.now
    omega
  unfold readE readB
  obtain ⟨q, hq'⟩ : ∃ q, q = (look d.now s).isSome := ⟨_, rfl⟩
  obtain ⟨t, ht⟩ : ∃ t, t = (look d.now s).getD [] := ⟨_, rfl⟩
  have hqt : q = false → t = [] := fun e => by
    rw [hq'] at e
    rw [ht]
    cases hl : look d.now s with
    | none => rfl
    | some x => rw [hl] at e; cases e
  rw [← hq', ← ht] at hlk ⊢
  rw [← ht] at hcc hC hle
  obtain ⟨dn, hdn⟩ : ∃ dn, dn = d.down := ⟨_, rfl⟩
  rw [← hdn] at c6 ⊢
  have HQ := Lib.hid hqt
  have HC := Lib.hid (clone_any A cc t w hC hcc (by omega))
  clear h hc hp hown h2 hq hgo hq' ht hdn hqt hC hsm
  cases dn with
  | true =>
    go_enter Try.func21, Try.ntmps21
    go_wp2_with fail
    go_ret2
    exact ⟨_, rfl, Kd.R_nil _ _ _ _ _, Below.refl _ _⟩
  | false =>
    cases q with
    | false =>
      have HT := Lib.hid (HQ.out rfl)
      clear HQ
      go_enter Try.func21, Try.ntmps21
      go_wp2_with fail
      go_ret2
      refine ⟨_, rfl, ?_, Below.refl _ _⟩
      rw [HT.out]
      exact Kd.R_nil _ _ _ _ _
    | true =>
      go_enter Try.func21, Try.ntmps21
      go_wp2_with fail
      refine HC.out.mono ?_
      rintro r w' ⟨v, rfl, hR, hB⟩
      have HR := Lib.hid (And.intro hR hB)
      clear hR hB
      go_wp2_with fail
      go_ret2
      exact ⟨_, rfl, HR.out.1, HR.out.2⟩
def newD (room : Int) : D := ⟨max room 0, [], [], [], 0, -1, false⟩
set_option maxRecDepth 100000 in
set_option maxHeartbeats 2000000 in
theorem new_any (room : Int) (w : World) :
    Calls Try.prog 7 #[.int .i64 room] w fun r w' => ∃ g, r = .returned (pt g) ∧ DiskAt w' w.heap.size g (fun k => w.heap.size ≤ k ∧ k < w'.heap.size) (newD room) ∧ Below w.heap.size w w' := by
  obtain ⟨M, hM⟩ : ∃ M, M = max room 0 := ⟨_, rfl⟩
  have hmx := max_is room 0 M hM.symm
  have hmm := @run_makeMap Try.prog
  unfold newD
  rw [← hM]
  clear hM
  go_enter Try.func7, Try.ntmps7
  go_wp2_with fail
  go_ret
  have hB : Below w.heap.size w (((w.alloc (.map #[] 0)).alloc (.map #[] 0)).alloc (.cells #[.int .i64 M, .map (some w.heap.size), .map (some (w.heap.size + 1)), .slice none 0 0, .int .i64 0, .int .i64 (-1), .bool false] tD)) := (((Below.refl _ _).alloc (Nat.le_refl _) _).alloc (by simp) _).alloc (by simp; omega) _
  refine ⟨_, rfl, ⟨⟨w.heap.size, w.heap.size + 1, .slice none 0 0, [], fun _ => False, ?_, ⟨?_, ?_, ?_, trivial, fun k hk => hk.elim, ?_, ?_, ?_⟩⟩, ?_, ?_⟩, hB⟩
  · have := heap_alloc_new ((w.alloc (.map #[] 0)).alloc (.map #[] 0)) (.cells #[.int .i64 M, .map (some w.heap.size), .map (some (w.heap.size + 1)), .slice none 0 0, .int .i64 0, .int .i64 (-1), .bool false] tD)
    simpa [DiskCells] using this
  · have h0 : MapAt (w.alloc (.map #[] 0)) (fun k => w.heap.size ≤ k ∧ k < ((((w.alloc (.map #[] 0)).alloc (.map #[] 0)).alloc (.cells #[.int .i64 M, .map (some w.heap.size), .map (some (w.heap.size + 1)), .slice none 0 0, .int .i64 0, .int .i64 (-1), .bool false] tD))).heap.size) w.heap.size [] := ⟨[], own_made w, trivial⟩
    exact h0.below (((Below.refl _ _).alloc (Nat.le_refl _) _).alloc (by simp) _)
  · have h0 : MapAt ((w.alloc (.map #[] 0)).alloc (.map #[] 0)) (fun k => w.heap.size ≤ k ∧ k < ((((w.alloc (.map #[] 0)).alloc (.map #[] 0)).alloc (.cells #[.int .i64 M, .map (some w.heap.size), .map (some (w.heap.size + 1)), .slice none 0 0, .int .i64 0, .int .i64 (-1), .bool false] tD))).heap.size) (w.heap.size + 1) [] := ⟨[], by have := own_made (w.alloc (.map #[] 0)); simpa using this, trivial⟩
    exact h0.below ((Below.refl _ _).alloc (Nat.le_refl _) _)
  · exact Kd.R_nil _ _ _ _ _
  · simp <;> omega
  · simp <;> omega
  · omega
  · exact fun k hk => ⟨hk.2, hk.1⟩
  · simp <;> omega
end Go.Proofs.Ytnjdighpdcabcaa
/- Crash. -/
set_option linter.unusedVariables false
set_option linter.unusedSimpArgs false
namespace Go.Proofs.Ytnjdighpdcabcaa
open Go.RowKit Go.Proofs.YtnjdighpdcabcaaW.PrintWords Go.Proofs.YtnjdighpdcabcaaW.PrintLast Go.Proofs.YtnjdighpdcabcaaW.PrintMore
attribute [local go_sem] max_two

/-- The files, behind those changes that are kept. -/
def crashF : Files → List Chg → List Bool → Files
  | fs, c :: cs, k :: ks => crashF (if k = true then appl fs c else fs) cs ks
  | fs, _, _ => fs
theorem crashF_nil (fs : Files) (ks : List Bool) : crashF fs [] ks = fs := by cases ks <;> rfl
theorem crashF_none (fs : Files) : ∀ cs : List Chg, crashF fs cs [] = fs
  | [] => rfl
  | _ :: _ => rfl
def keptAt (ks : List Bool) (i : Nat) : Bool := ks.getD i false
theorem crashF_take (c : Chg) : ∀ (cs : List Chg) (fs : Files) (ks : List Bool) (i : Nat), cs[i]? = some c → crashF fs (cs.take (i + 1)) ks = if keptAt ks i = true then appl (crashF fs (cs.take i) ks) c else crashF fs (cs.take i) ks
  | [], _, _, _, h => by simp at h
  | c' :: cs, fs, [], i, h => by
    rw [crashF_none, crashF_none]
    simp [keptAt]
  | c' :: cs, fs, k :: ks, 0, h => by
    simp at h
    subst h
    simp [crashF, crashF_nil, keptAt]
  | c' :: cs, fs, k :: ks, i + 1, h => by
    have := crashF_take c cs (if k = true then appl fs c' else fs) ks i (by simpa using h)
    simp only [List.take_succ_cons, crashF]
    rw [this]
    simp [keptAt]
theorem length_crash : ∀ (cs : List Chg) (fs : Files) (ks : List Bool), (crashF fs cs ks).length ≤ fs.length + cs.length
  | [], fs, ks => by rw [crashF_nil]; simp
  | c :: cs, fs, [] => by rw [crashF_none]; omega
  | c :: cs, fs, k :: ks => by
    have := length_crash cs (if k = true then appl fs c else fs) ks
    rw [crashF]
    have h2 : (if k = true then appl fs c else fs).length ≤ fs.length + 1 := by
      split
      · exact length_appl fs c
      · omega
    rw [List.length_cons]
    omega
def crashD (d : D) (keep : List Bool) : D := { d with now := crashF d.old d.ch keep, old := crashF d.old d.ch keep, ch := [], fuse := -1, down := false }
theorem not_map_cell {w : World} {m : Nat} {vs : List (ByteArray × Value)} (h : OwnM w m vs) {p : Addr} {v : Value} (hc : w.cell? p = some v) : p.block ≠ m := by
  obtain ⟨es, clock, h1, _⟩ := h
  rintro rfl
  unfold World.cell? at hc
  rw [h1] at hc
  cases hc
/-- A row of bools stays readable while a map turns. -/
theorem bools_stay {w w' : World} {S : Nat → Prop} {A : Option Addr} {n : Nat} {ks : List Bool} (h : Kd.C Kd.bool w A n ks) (k : ∀ p v, w.cell? p = some v → w'.cell? p = some v) : Kd.C Kd.bool w' A n ks := by
  refine ⟨h.1, h.2.1, fun hn => ?_⟩
  obtain ⟨ad, e, hc⟩ := h.2.2 hn
  refine ⟨ad, e, fun j t hj => ?_⟩
  obtain ⟨c, hl, hr, hcell⟩ := hc j t hj
  exact ⟨c, hl, hr, fun i u hu => k _ _ (hcell i u hu)⟩
theorem at_fn {w : World} {A : Option Addr} {n : Nat} {xs : List FnV} (h : kFn.C w A n xs) (i : Nat) (x : FnV) (hx : xs[i]? = some x) : ∃ ad, A = some ad ∧ w.cell? (ad.add i) = some (encFn x) := by
  have hi : i < n := by rw [← h.1]; exact (List.getElem?_eq_some_iff.1 hx).1
  obtain ⟨ad, c, e, _, hK, hc⟩ := Kd.C_get h x (i : Int) (by omega) (by omega)
  refine ⟨ad, e, ?_⟩
  have hg : xs.getD (i : Int).toNat x = x := by simp [List.getD_eq_getElem?_getD, hx]
  rw [hg] at hK
  have hK' : c = [encFn x] := hK
  have := hc 0 (encFn x) (by rw [hK']; rfl)
  simpa [show kFn.sz = 1 from rfl] using this
theorem fn_enters {w : World} {S : Nat → Prop} {f : Nat} {cap : Array Value} {c : Chg} (h : FnAt w S (f, cap) c) : ∀ args w, (callFunc f args).run Try.prog w = .ok (.enter f args) w := by
  rcases h.2.2 with ⟨_, _, _, _, e, _⟩ | ⟨_, _, _, e, _⟩ | ⟨_, _, e, _⟩
  · obtain ⟨rfl, _⟩ := Prod.mk.inj e; exact enters_w2
  · obtain ⟨rfl, _⟩ := Prod.mk.inj e; exact enters_n2
  · exact False.elim e
set_option maxRecDepth 100000 in
set_option maxHeartbeats 4000000 in
theorem crash_any (w : World) (base g : Nat) (S : Nat → Prop) (d : D) (h : DiskAt w base g S d) (hsm : Small d) (Ak : Option Addr) (nk ck : Nat) (ks : List Bool) (hk : ks.length = nk) (hC : Kd.C Kd.bool w Ak nk ks) :
    Calls Try.prog 15 #[pt g, .slice Ak nk ck] w fun r w' => r = .returned (.tuple #[]) ∧ DiskStep w w' base g S (crashD d ks) := by
  obtain ⟨bn, bs, vc, cs, Sc, hc, hp⟩ := h.row
  have hgl := h.glt
  obtain ⟨Ac, cc, rfl, hcc, hCc⟩ := Kd.R_reads hp.row
  have hlen := hp.fns.length
  obtain ⟨m, hm⟩ : ∃ m, m = cs.length := ⟨_, rfl⟩
  obtain ⟨_, _, _, c3, _, _, _⟩ := cells7 hc
  rw [← hm] at c3 hCc hlen
  have hml : m ≤ 1000000000 := by rw [hlen]; exact hsm.ch
  have HH := Lib.hid h
  have HC0 := Lib.hid hc
  have HP := Lib.hid hp
  have HSM := Lib.hid hsm
  have HK := Lib.hid hk
  have HCK := Lib.hid hC
  have HM := Lib.hid (And.intro hm hlen)
  have hnk : nk ≤ 9223372036854775807 := hC.2.1
  have hbase : base ≤ w.heap.size := by have := h.lt g h.own; omega
  clear h hc hp hsm hk hC hm hlen hcc hCc
  go_enter Try.func15, Try.ntmps15
  go_wp2_with fail
  go_loopw [11] (fun v wr => ∃ i : Nat, v = .int .i64 (i : Int) ∧ i ≤ m ∧ Parts wr base g S bn bs (.slice Ac cs.length cc) cs Sc d.now (crashF d.old (d.ch.take i) ks) d.ch ∧ DiskCells wr g d bn bs (.slice Ac cs.length cc) ∧ Turns S w wr ∧ Kd.C Kd.bool wr Ak nk ks) (fun v _ => m - (Lib.intOf v).toNat)
  case atStart => exact ⟨0, rfl, Nat.zero_le _, HP.out, HC0.out, Turns.refl _ _, HCK.out⟩
  case round =>
    obtain ⟨i, rfl, him, hp, hc, hT, hC⟩ := hrel
    by_cases hi : i < m
    · obtain ⟨c, hcd⟩ : ∃ c, d.ch[i]? = some c := ⟨_, List.getElem?_eq_getElem (by rw [← HM.out.2]; exact hi)⟩
      obtain ⟨⟨f, cap⟩, hcx, hfn⟩ := hp.fns.get hcd
      have eg := fn_enters hfn
      obtain ⟨ad, e, hcell⟩ := at_fn (Kd.R_reads' hp.row).2.2 i _ hcx
      obtain ⟨_, _, c2, _, _, _, _⟩ := cells7 hc
      have hi' : (i : Int) < (m : Int) := by omega
      have hstep := crashF_take c d.ch d.old ks i hcd
      have HPr := Lib.hid hp
      have HCr := Lib.hid hc
      have HTr := Lib.hid hT
      have HKr := Lib.hid hC
      have HF := Lib.hid hfn
      have HST := Lib.hid hstep
      have HI := Lib.hid hi
      clear hp hc hT hC hfn hstep hcx hcd him hi
      subst e
      have hcell' : wr.cell? (ad.add i) = some (.func (.func f) #[] cap) := hcell
      clear hcell
      cases hkp : keptAt ks i with
      | false =>
        have HKP := Lib.hid hkp
        rw [hkp] at HST
        clear hkp
        have HST2 := Lib.hid (HST.out.trans (if_neg (by simp)))
        clear HST
        by_cases hik : i < nk
        · have hik' : (i : Int) < (nk : Int) := by omega
          obtain ⟨ak, e, hck⟩ := Kd.at_bool HKr.out (i : Int) (by omega) (by omega)
          subst e
          have e2 : rdOf false ks (i : Int) = false := HKP.out
          rw [e2] at hck
          have hck' : wr.cell? (ak.add i) = some (.bool false) := hck
          clear hck e2
          go_wp2_with fail
          go_roundw
          case rel => exact ⟨i + 1, by simp, by have := HI.out; omega, by rw [HST2.out]; exact HPr.out, HCr.out, HTr.out, HKr.out⟩
          case measure => simp [Lib.intOf]; have := HI.out; omega
        · have hik' : ¬ (i : Int) < (nk : Int) := by omega
          go_wp2_with fail
          go_roundw
          case rel => exact ⟨i + 1, by simp, by have := HI.out; omega, by rw [HST2.out]; exact HPr.out, HCr.out, HTr.out, HKr.out⟩
          case measure => simp [Lib.intOf]; have := HI.out; omega
      | true =>
        have HKP := Lib.hid hkp
        rw [hkp] at HST
        clear hkp
        have HST2 := Lib.hid (HST.out.trans (if_pos rfl))
        clear HST
        have hik : i < nk := by
          rcases Nat.lt_or_ge i nk with h | h
          · exact h
          · exfalso
            have := HKP.out
            unfold keptAt at this
            rw [List.getD_eq_getElem?_getD, List.getElem?_eq_none (by rw [HK.out]; exact h)] at this
            simp at this
        have hik' : (i : Int) < (nk : Int) := by omega
        obtain ⟨ak, e, hck⟩ := Kd.at_bool HKr.out (i : Int) (by omega) (by omega)
        subst e
        have e2 : rdOf false ks (i : Int) = true := HKP.out
        rw [e2] at hck
        have hck' : wr.cell? (ak.add i) = some (.bool true) := hck
        clear hck e2
        go_wp2_with fail
        refine (do_any wr S bs _ f cap c HF.out HPr.out.old HPr.out.ss (by
          have h1 := length_crash (d.ch.take i) d.old ks
          have h2 : (d.ch.take i).length ≤ d.ch.length := by rw [List.length_take]; omega
          have h3 := HSM.out.old
          have h4 := HSM.out.ch
          unfold maxLen
          omega)).mono ?_
        rintro r w2 ⟨rfl, hm2, ht2⟩
        obtain ⟨vs2, ho2, _⟩ := id HPr.out.old
        have hp2 := HPr.out.mapped2 ht2 hm2
        have hc2 : DiskCells w2 g d bn bs (.slice (some ad) cs.length cc) := (ht2.grown.block g (blk_lt HCr.out) (fun e => hp2.ne.2.2 (by cases e; rfl))).trans HCr.out
        have hT2 := HTr.out.turned ht2 (.inl hp2.ss)
        have hC2 : Kd.C Kd.bool w2 (some ak) nk ks := bools_stay (S := S) HKr.out (fun p v hc => ht2.grown.cell hc (fun e => not_map_cell ho2 hc (by cases e; rfl)))
        have H2 := Lib.hid (And.intro hp2 (And.intro hc2 (And.intro hT2 hC2)))
        clear hp2 hc2 hT2 hC2 hm2 ht2 ho2
        go_wp2_with fail
        go_roundw
        case rel => exact ⟨i + 1, by simp, by have := HI.out; omega, by rw [HST2.out]; exact H2.out.1, H2.out.2.1, H2.out.2.2.1, H2.out.2.2.2⟩
        case measure => simp [Lib.intOf]; have := HI.out; omega
    · have hie : i = m := by omega
      subst hie
      have hi' : ¬ (i : Int) < (i : Int) := by omega
      have htk : d.ch.take i = d.ch := by rw [HM.out.2]; exact List.take_length
      rw [htk] at hp
      obtain ⟨vs, hown, h2⟩ := id hp.old
      obtain ⟨_, _, c2, _, _, _, _⟩ := cells7 hc
      have hg2 : g < wr.heap.size := blk_lt hc
      have HPr := Lib.hid hp
      have HCr := Lib.hid hc
      have HTr := Lib.hid hT
      have HOr := Lib.hid (And.intro hown h2)
      clear hp hc hT hC hown h2 htk him hi
      go_wp2_with fail
      refine (clone_map wr bs vs HOr.out.1).mono ?_
      rintro r w3 ⟨rfl, ho3, hB3⟩
      have hc3 := (hB3.block g hg2).trans HCr.out
      have HC3 := Lib.hid hc3
      obtain ⟨_, c1, _, c3', _, c5, c6⟩ := cells7 hc3
      have q1 := blk_frozen hc3 1
      have q3 := blk_frozen hc3 3
      have q5 := blk_frozen hc3 5
      have q6 := blk_frozen hc3 6
      have hg3 : g < w3.heap.size := blk_lt hc3
      have HO3 := Lib.hid ho3
      have HB3 := Lib.hid hB3
      clear ho3 hB3 hc3
      go_wp2_with fail
      go_end0
      obtain ⟨w4, hw4⟩ : ∃ w4, w4 = ((((w3.setCell ⟨g, 1, none⟩ (.map (some wr.heap.size))).setCell ⟨g, 3, none⟩ (.slice none 0 0)).setCell ⟨g, 5, none⟩ (.int .i64 (-1))).setCell ⟨g, 6, none⟩ (.bool false)) := ⟨_, rfl⟩
      rw [← hw4]
      have hp := HPr.out
      have h2 := HOr.out.2
      have hz := HB3.out.size
      have h23 := HTr.out.size
      have hlt := HO3.out.lt
      have hgw := hgl
      have hzz : w4.heap.size = w3.heap.size := by rw [hw4]; simp [World.setCell]
      have kT : Turns (fun k => k = g) w3 w4 := by
        rw [hw4]
        exact ((((Turns.refl (fun k => k = g) w3).set (p := ⟨g, 1, none⟩) (.inl rfl) _).set (p := ⟨g, 3, none⟩) (.inl rfl) _).set (p := ⟨g, 5, none⟩) (.inl rfl) _).set (p := ⟨g, 6, none⟩) (.inl rfl) _
      have kT2 : Turns (fun k => k = g) wr w4 := (Turns.of_below HB3.out (fun k => k = g)).trans kT (fun _ h => .inl h)
      have hgS : ∀ i, i = g → S i := fun i e => by subst e; exact HH.out.own
      have hsub : ∀ i, (S i ∨ i = wr.heap.size) → S i ∨ wr.heap.size ≤ i := fun i hi => by
        rcases hi with h | h
        · exact .inl h
        · exact .inr (by omega)
      refine ⟨rfl, fun k => S k ∨ k = wr.heap.size, ⟨⟨wr.heap.size, bs, .slice none 0 0, [], fun _ => False, ?_, ⟨?_, ?_, ?_, ?_, ?_, ?_, ?_, ?_⟩⟩, ?_, ?_⟩, ?_, ?_⟩
      · have hc3 := HC3.out
        unfold DiskCells at hc3 ⊢
        rw [hw4, blk_set (blk_set (blk_set (blk_set hc3 1 _) 3 _) 5 _) 6]
        rfl
      · refine (MapAt.cloned (S' := fun k => S k ∨ k = wr.heap.size) h2 HB3.out HO3.out hsub).step kT (fun e => ?_) (fun i e => .inl (hgS i e)) (fun _ h => .inl h)
        omega
      · exact hp.old.step kT2 (fun e => hp.ne.2.2 e.symm) hgS hsub
      · exact Kd.R_nil _ _ _ _ _
      · trivial
      · exact fun k hk => hk.elim
      · exact .inr rfl
      · exact .inl hp.ss
      · have := hp.old.lt
        exact ⟨by omega, by omega, hp.ne.2.2⟩
      · intro j hj
        rw [hzz]
        rcases hj with h | h
        · have := HH.out.lt j h
          exact ⟨by omega, this.2⟩
        · exact ⟨by omega, by omega⟩
      · exact .inl HH.out.own
      · intro k hk
        rcases hk with h | h
        · exact .inl h
        · exact .inr (by omega)
      · exact HTr.out.trans (kT2.mono (S' := S) (fun i hi => .inl (hgS i hi))) (fun _ h => .inl h)
end Go.Proofs.Ytnjdighpdcabcaa
/- A disk in memory beside blocks F that are the caller's. -/
set_option linter.unusedVariables false
set_option linter.unusedSimpArgs false
namespace Go.Proofs.Ytnjdighpdcabcaa
open Go.RowKit Go.Proofs.YtnjdighpdcabcaaW.PrintWords Go.Proofs.YtnjdighpdcabcaaW.PrintLast Go.Proofs.YtnjdighpdcabcaaW.PrintMore

/-- A disk of the call's own; F: blocks from base on that are no part of it (the caller's rows and boxes). -/
structure DiskF (w0 w : World) (F : Nat → Prop) (g : Nat) (d : D) : Prop where
  hB : Below w0.heap.size w0 w
  ex : ∃ S, DiskAt w w0.heap.size g S d ∧ ∀ k, F k → k < w.heap.size ∧ ¬ S k
/-- The blocks that have come since. -/
def Since (F : Nat → Prop) (w w' : World) (k : Nat) : Prop := F k ∨ (w.heap.size ≤ k ∧ k < w'.heap.size)
section
variable {w0 w w' : World} {F F' : Nat → Prop} {g : Nat} {d d' : D}
theorem DiskF.below (h : DiskF w0 w F g d) (k : Below w.heap.size w w') : DiskF w0 w' F g d := by
  obtain ⟨S, h1, h2⟩ := h.ex
  exact ⟨h.hB.trans (k.mono h.hB.size), S, h1.below k, fun i hi => ⟨Nat.lt_of_lt_of_le (h2 i hi).1 k.size, (h2 i hi).2⟩⟩
theorem DiskF.keep (h : DiskF w0 w F g d) (k : Below w.heap.size w w') : DiskF w0 w' (Since F w w') g d := by
  obtain ⟨S, h1, h2⟩ := h.ex
  refine ⟨h.hB.trans (k.mono h.hB.size), S, h1.below k, fun i hi => ?_⟩
  rcases hi with hi | hi
  · exact ⟨Nat.lt_of_lt_of_le (h2 i hi).1 k.size, (h2 i hi).2⟩
  · exact ⟨hi.2, fun hS => by have := (h1.lt i hS).1; omega⟩
theorem DiskF.less (h : DiskF w0 w F g d) (hF : ∀ k, F' k → F k) : DiskF w0 w F' g d := by
  obtain ⟨S, h1, h2⟩ := h.ex
  exact ⟨h.hB, S, h1, fun i hi => h2 i (hF i hi)⟩
theorem DiskF.step {P : Program} {f : FuncId} {args : Array Value} {Q : Ending → World → Prop} (h : DiskF w0 w F g d) (hc : ∀ S, DiskAt w w0.heap.size g S d → Calls P f args w fun r w' => Q r w' ∧ DiskStep w w' w0.heap.size g S d') :
    Calls P f args w fun r w' => Q r w' ∧ DiskF w0 w' F g d' ∧ Turns (fun k => w0.heap.size ≤ k ∧ ¬ F k) w w' := by
  obtain ⟨S, h1, h2⟩ := h.ex
  refine (hc S h1).mono ?_
  rintro r w' ⟨hq, S', k1, k2, k3⟩
  refine ⟨hq, ⟨h.hB.trans (k3.toBelow h.hB.size (fun i hi => (h1.lt i hi).2)), S', k1, fun i hi => ⟨Nat.lt_of_lt_of_le (h2 i hi).1 k3.size, fun hS => ?_⟩⟩, k3.mono (fun i hi => .inl ⟨(h1.lt i hi).2, fun hF => (h2 i hF).2 hi⟩)⟩
  rcases k2 i hS with h' | h'
  · exact (h2 i hi).2 h'
  · have := (h2 i hi).1
    omega
theorem DiskF.look {P : Program} {f : FuncId} {args : Array Value} {Q : Ending → World → Prop} (h : DiskF w0 w F g d) (hc : ∀ S, DiskAt w w0.heap.size g S d → Calls P f args w Q) : Calls P f args w Q := by
  obtain ⟨S, h1, _⟩ := h.ex
  exact hc S h1
end
theorem new_F (room : Int) (w0 w : World) (hB : Below w0.heap.size w0 w) (F : Nat → Prop) (hF : ∀ k, F k → k < w.heap.size) :
    Calls Try.prog 7 #[.int .i64 room] w fun r w' => ∃ g, r = .returned (pt g) ∧ DiskF w0 w' F g (newD room) ∧ Below w.heap.size w w' := by
  refine (new_any room w).mono ?_
  rintro r w' ⟨g, rfl, h, hB'⟩
  refine ⟨g, rfl, ⟨hB.trans (hB'.mono hB.size), _, ⟨?_, fun k hk => ⟨(h.lt k hk).1, Nat.le_trans hB.size (h.lt k hk).2⟩, h.own⟩, fun k hk => ⟨Nat.lt_of_lt_of_le (hF k hk) hB'.size, fun hS => ?_⟩⟩, hB'⟩
  · obtain ⟨bn, bs, vc, cs, Sc, hc, hp⟩ := h.row
    exact ⟨bn, bs, vc, cs, Sc, hc, ⟨hp.now, hp.old, Kd.R_lower hp.row hB.size, hp.fns, hp.sc, hp.sn, hp.ss, hp.ne⟩⟩
  · have := (h.lt k hS).2
    have := hF k hk
    omega
/-! ## the numbers stay small -/
theorem Small.off {d : D} (h : Small d) : Small { d with down := true } := ⟨h.now, h.old, h.ch, h.acts, h.fuse, h.room, h.each⟩
end Go.Proofs.Ytnjdighpdcabcaa
/- What stays of a disk's numbers, call by call; the calls beside the caller's blocks. -/
set_option linter.unusedVariables false
set_option linter.unusedSimpArgs false
namespace Go.Proofs.Ytnjdighpdcabcaa
open Go.RowKit Go.Proofs.YtnjdighpdcabcaaW.PrintWords Go.Proofs.YtnjdighpdcabcaaW.PrintLast Go.Proofs.YtnjdighpdcabcaaW.PrintMore

def Each (fs : Files) : Prop := ∀ p ∈ fs, p.2.length ≤ 65536
theorem Each.put {fs : Files} (h : Each fs) {s : ByteArray} {t : List Int} (ht : t.length ≤ 65536) : Each (put fs s t) := fun p hp => by
  rcases (mem_ins _).1 hp with rfl | hp
  · exact ht
  · exact h p (mem_del.1 hp).1
theorem Each.del {fs : Files} (h : Each fs) (s : ByteArray) : Each (del fs s) := fun p hp => h p (mem_del.1 hp).1
theorem Each.appl {fs : Files} (h : Each fs) {c : Chg} (hc : c.t.length ≤ 65536) : Each (appl fs c) := by
  unfold Ytnjdighpdcabcaa.appl
  split
  · exact h.put hc
  · split
    · cases hl : look fs c.a with
      | none => exact h
      | some t => exact (h.del c.a).put (h _ (look_mem hl))
    · exact h.del c.a
theorem Each.crash : ∀ {cs : List Chg} {fs : Files} {ks : List Bool}, Each fs → (∀ c ∈ cs, c.t.length ≤ 65536) → Each (crashF fs cs ks)
  | [], fs, ks, h, _ => by rw [crashF_nil]; exact h
  | c :: cs, fs, [], h, _ => by rw [crashF_none]; exact h
  | c :: cs, fs, k :: ks, h, hc => by
    rw [crashF]
    refine Each.crash ?_ (fun c' h' => hc c' (by simp [h']))
    split
    · exact h.appl (hc c (by simp))
    · exact h
structure SmallI (n : Nat) (d : D) : Prop where
  now : d.now.length ≤ n
  old : d.old.length + d.ch.length ≤ n
  acts : 0 ≤ d.acts ∧ d.acts ≤ n
  fuse : -1 ≤ d.fuse ∧ d.fuse ≤ 9223372036854775807
  room : 0 ≤ d.room ∧ d.room ≤ 9223372036854775807
  each : Each d.now ∧ Each d.old ∧ ∀ c ∈ d.ch, c.t.length ≤ 65536
section
variable {n : Nat} {d : D}
theorem SmallI.small (h : SmallI n d) (hn : n ≤ 1000000000) : Small d :=
  ⟨by have := h.now; omega, by have := h.old; omega, by have := h.old; omega, ⟨h.acts.1, by have := h.acts.2; omega⟩, h.fuse, h.room, h.each⟩
theorem SmallI.le {m : Nat} (h : SmallI n d) (hn : n ≤ m) : SmallI m d :=
  ⟨by have := h.now; omega, by have := h.old; omega, ⟨h.acts.1, by have := h.acts.2; omega⟩, h.fuse, h.room, h.each⟩
theorem SmallI.off (h : SmallI n d) : SmallI n { d with down := true } := ⟨h.now, h.old, h.acts, h.fuse, h.room, h.each⟩
theorem SmallI.ran (h : SmallI n d) : SmallI (n + 1) (ranD d) :=
  ⟨by have := h.now; show d.now.length ≤ _; omega, by have := h.old; show d.old.length + d.ch.length ≤ _; omega, ⟨by have := h.acts.1; show 0 ≤ d.acts + 1; omega, by have := h.acts.2; show d.acts + 1 ≤ _; omega⟩,
    by have := h.fuse; show -1 ≤ max (d.fuse - 1) (-1) ∧ max (d.fuse - 1) (-1) ≤ _; omega, h.room, h.each⟩
theorem SmallI.act (h : SmallI n d) (code : Int) (c : Chg) (hc : code = 0 → c.t.length ≤ 65536) : SmallI (n + 1) (actD d code c) := by
  unfold actD
  split
  · exact (h.off).le (Nat.le_succ _)
  · split
    · rename_i _ h0
      have hr := h.ran
      refine ⟨?_, ?_, hr.acts, hr.fuse, hr.room, h.each.1.appl (hc h0), h.each.2.1, fun c' hc' => ?_⟩
      · have := length_appl d.now c
        have := h.now
        show (appl d.now c).length ≤ _
        omega
      · have := h.old
        show d.old.length + (d.ch ++ [c]).length ≤ _
        rw [List.length_append, List.length_singleton]
        omega
      · rcases List.mem_append.1 hc' with h' | h'
        · exact h.each.2.2 c' h'
        · rw [List.mem_singleton.1 h']
          exact hc h0
    · exact h.le (Nat.le_succ _)
theorem wrE_le {s : ByteArray} {k : Nat} (h : wrE d s k = 0) : k ≤ 65536 := by
  unfold wrE at h
  split at h
  · split at h
    · cases h
    · rename_i h2
      omega
  · cases h
theorem SmallI.write (h : SmallI n d) (s : ByteArray) (l : List Int) : SmallI (n + 1) (writeD d s l) := h.act _ _ (fun h0 => wrE_le h0)
theorem SmallI.rename (h : SmallI n d) (s t : ByteArray) : SmallI (n + 1) (renameD d s t) := h.act _ _ (fun _ => Nat.zero_le _)
theorem SmallI.remove (h : SmallI n d) (s : ByteArray) : SmallI (n + 1) (remD d s) := h.act _ _ (fun _ => Nat.zero_le _)
theorem SmallI.sync (h : SmallI n d) : SmallI (n + 1) (syncD d) := by
  unfold syncD
  split
  · exact h.off.le (Nat.le_succ _)
  · have hr := h.ran
    exact ⟨hr.now, by have := h.now; show d.now.length + 0 ≤ _; omega, hr.acts, hr.fuse, hr.room, h.each.1, h.each.1, fun c hc => by cases hc⟩
theorem SmallI.fuseI (h : SmallI n d) (k : Int) (hk : k ≤ 9223372036854775807) : SmallI (n + 1) (fuseD d k) :=
  (⟨h.now, h.old, h.acts, by show -1 ≤ max k (-1) ∧ max k (-1) ≤ _; omega, h.room, h.each⟩ : SmallI n (fuseD d k)).le (Nat.le_succ _)
theorem SmallI.crash (h : SmallI n d) (ks : List Bool) : SmallI (n + 1) (crashD d ks) := by
  have hl := length_crash d.ch d.old ks
  have ho := h.old
  exact (⟨by show (crashF d.old d.ch ks).length ≤ n; omega, by show (crashF d.old d.ch ks).length + 0 ≤ n; omega, h.acts, by show -1 ≤ (-1 : Int) ∧ (-1 : Int) ≤ _; omega, h.room, h.each.2.1.crash h.each.2.2, h.each.2.1.crash h.each.2.2, fun c hc => by cases hc⟩ : SmallI n (crashD d ks)).le (Nat.le_succ _)
theorem SmallI.new (room : Int) (hr : room ≤ 9223372036854775807) : SmallI 0 (newD room) :=
  ⟨Nat.le_refl _, Nat.le_refl _, ⟨Int.le_refl _, Int.le_refl _⟩, by show -1 ≤ (-1 : Int) ∧ (-1 : Int) ≤ _; omega, by show 0 ≤ max room 0 ∧ max room 0 ≤ _; omega, ⟨(fun p hp => by cases hp), (fun p hp => by cases hp), (fun c hc => by cases hc)⟩⟩
end
section
variable {w0 w : World} {F : Nat → Prop} {g : Nat} {d : D}
abbrev Own (w0 : World) (F : Nat → Prop) : Nat → Prop := fun k => w0.heap.size ≤ k ∧ ¬ F k
theorem write_F (h : DiskF w0 w F g d) (hsm : Small d) (s : ByteArray) (hs : s.size ≤ maxLen) (A : Option Addr) (n c : Nat) (l : List Int) (hl : l.length = n) (hC : Kd.C (Kd.int .u8) w A n l) (hc : n ≤ c) (hn : n ≤ 140737488351232) :
    Calls Try.prog 12 #[pt g, .string s, .slice A n c] w fun r w' => r = .returned (.int .i64 (writeE d s l)) ∧ DiskF w0 w' F g (writeD d s l) ∧ Turns (Own w0 F) w w' :=
  h.step (fun S hS => write_any w _ g S d hS hsm s hs A n c l hl hC hc hn)
theorem rename_F (h : DiskF w0 w F g d) (hsm : Small d) (s t : ByteArray) (hs : s.size ≤ maxLen) (ht : t.size ≤ maxLen) :
    Calls Try.prog 27 #[pt g, .string s, .string t] w fun r w' => r = .returned (.int .i64 (renameE d s t)) ∧ DiskF w0 w' F g (renameD d s t) ∧ Turns (Own w0 F) w w' :=
  h.step (fun S hS => rename_any w _ g S d hS hsm s t hs ht)
theorem sync_F (h : DiskF w0 w F g d) (hsm : Small d) :
    Calls Try.prog 24 #[pt g] w fun r w' => r = .returned (.int .i64 (syncE d)) ∧ DiskF w0 w' F g (syncD d) ∧ Turns (Own w0 F) w w' :=
  h.step (fun S hS => sync_any w _ g S d hS hsm)
theorem fuse_F (h : DiskF w0 w F g d) (n : Int) :
    Calls Try.prog 14 #[pt g, .int .i64 n] w fun r w' => r = .returned (.tuple #[]) ∧ DiskF w0 w' F g (fuseD d n) ∧ Turns (Own w0 F) w w' :=
  h.step (fun S hS => fuse_any w _ g S d hS n)
theorem crash_F (h : DiskF w0 w F g d) (hsm : Small d) (Ak : Option Addr) (nk ck : Nat) (ks : List Bool) (hk : ks.length = nk) (hC : Kd.C Kd.bool w Ak nk ks) :
    Calls Try.prog 15 #[pt g, .slice Ak nk ck] w fun r w' => r = .returned (.tuple #[]) ∧ DiskF w0 w' F g (crashD d ks) ∧ Turns (Own w0 F) w w' :=
  h.step (fun S hS => crash_any w _ g S d hS hsm Ak nk ck ks hk hC)
theorem read_F (h : DiskF w0 w F g d) (hsm : Small d) (s : ByteArray) (hs : s.size ≤ maxLen) :
    Calls Try.prog 21 #[pt g, .string s] w fun r w' => ∃ v, r = .returned (.tuple #[v, .int .i64 (readE d s)]) ∧ Kd.R (Kd.int .u8) 5 w' w.heap.size (fun _ => True) v (readB d s) ∧ Below w.heap.size w w' :=
  h.look (fun S hS => read_any w _ g S d hS hsm s hs)
theorem used_F (h : DiskF w0 w F g d) (hsm : Small d) : Calls Try.prog 32 #[pt g] w fun r w' => r = .returned (.int .i64 (used d.now : Int)) ∧ Below w.heap.size w w' := h.look (fun S hS => used_any w _ g S d hS hsm)
theorem acts_F (h : DiskF w0 w F g d) : Calls Try.prog 11 #[pt g] w fun r w' => r = .returned (.int .i64 d.acts) ∧ w' = w := h.look (fun S hS => acts_any w _ g S d hS)
end
end Go.Proofs.Ytnjdighpdcabcaa
/- Rows that have just been laid. -/
set_option linter.unusedVariables false
set_option linter.unusedSimpArgs false
namespace Go.Proofs.Ytnjdighpdcabcaa
open Go.RowKit Go.Proofs.YtnjdighpdcabcaaW.PrintWords Go.Proofs.YtnjdighpdcabcaaW.PrintLast Go.Proofs.YtnjdighpdcabcaaW.PrintMore

abbrev sOf (l : List UInt8) : ByteArray := ⟨l.toArray⟩
/-- Bytes that have just been laid. -/
theorem lit_C (w : World) (l : List Int) (t : TypeId) (fr : Nat × Nat) (n : Nat) (hn : l.length = n) (hl : n ≤ 1000000) : Kd.C (Kd.int .u8) (w.alloc (.cells (l.map (Value.int .u8)).toArray t fr)) (some ⟨w.heap.size, 0, none⟩) n l := by
  refine Kd.C_of_reads (d := (0 : Int)) ⟨hn, by omega, fun _ => ⟨_, rfl, fun j hj => ?_⟩⟩
  rw [show (⟨w.heap.size, 0, none⟩ : Addr).add j = ⟨w.heap.size, j, none⟩ by cases j <;> simp [Addr.add]]
  rw [cell_of_row _ _ _ _ _ _ (heap_alloc_new w (.cells (l.map (Value.int .u8)).toArray t fr))]
  simp [List.getElem?_eq_getElem (show j < l.length by omega), List.getD_eq_getElem?_getD]
theorem lit_Cb (w : World) (l : List Bool) (t : TypeId) (fr : Nat × Nat) (n : Nat) (hn : l.length = n) (hl : n ≤ 1000000) : Kd.C Kd.bool (w.alloc (.cells (l.map Value.bool).toArray t fr)) (some ⟨w.heap.size, 0, none⟩) n l := by
  refine Kd.C_of_reads (d := false) ⟨hn, by omega, fun _ => ⟨_, rfl, fun j hj => ?_⟩⟩
  rw [show (⟨w.heap.size, 0, none⟩ : Addr).add j = ⟨w.heap.size, j, none⟩ by cases j <;> simp [Addr.add]]
  rw [cell_of_row _ _ _ _ _ _ (heap_alloc_new w (.cells (l.map Value.bool).toArray t fr))]
  simp [List.getElem?_eq_getElem (show j < l.length by omega), List.getD_eq_getElem?_getD]
theorem make_run (m : Nat) (hm : m ≤ 1000000) : ∀ W : World, (Instr.makeSlice 32 (.int .i64 (m : Int)) (.int .i64 (m : Int))).run Try.prog W = .ok (.slice (some ⟨W.heap.size, 0, none⟩) m m) (W.alloc (.cells (madeCells #[.int .u8 0] m) 5)) :=
  print_make 32 5 .u8 1 Try.underlying32 infoU8 (by decide) m (by omega)
theorem make_C (W : World) (m : Nat) (hm : m ≤ 1000000) : Kd.C (Kd.int .u8) (W.alloc (.cells (madeCells #[.int .u8 0] m) 5)) (some ⟨W.heap.size, 0, none⟩) m (List.replicate m 0) := by
  have hR : Kd.R (Kd.int .u8) 5 (W.alloc (.cells (madeCells #[.int .u8 0] m) 5)) W.heap.size (fun _ => True) (.slice (some ⟨W.heap.size, 0, none⟩) m m) (List.replicate m 0) := Kd.R_of_own (by
    have := Go.Proofs.YtnjdighpdcabcaaW.PrintWords.own_made W W.heap.size 5 .u8 m (Nat.le_refl _) (by omega)
    rw [List.length_replicate]
    exact this) (fun _ _ => trivial)
  have h := (Kd.R_reads' hR).2.2
  rw [List.length_replicate] at h
  exact h
end Go.Proofs.Ytnjdighpdcabcaa
