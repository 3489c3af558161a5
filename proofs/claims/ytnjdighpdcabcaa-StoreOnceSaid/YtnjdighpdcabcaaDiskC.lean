/- An act of a disk. -/
import Derived.Test.YtnjdighpdcabcaaDa
set_option linter.unusedVariables false
set_option linter.unusedSimpArgs false
namespace Go.Proofs.Ytnjdighpdcabcaa
open Go.RowKit Go.Proofs.YtnjdighpdcabcaaW.PrintWords Go.Proofs.YtnjdighpdcabcaaW.PrintLast Go.Proofs.YtnjdighpdcabcaaW.PrintMore
attribute [local go_sem] max_two

theorem infoFn : (Try.prog.info? 61).map (fun i => (i.zero, i.size, i.bytes)) = some (some .nilFunc, 1, 8) := by kernel_rfl
theorem fn_not_nil (f : Nat) (cs : Array Value) (W : World) : (binOp .neq 61 (.func (.func f) #[] cs) .nilFunc).run Try.prog W = .ok (.bool true) W := by kernel_rfl
theorem nil_is_nil (W : World) : (binOp .neq 61 .nilFunc .nilFunc).run Try.prog W = .ok (.bool false) W := by kernel_rfl
theorem max_is (x y m : Int) (h : max x y = m) : Builtin.max2 (.int .i64 x) (.int .i64 y) = pure (.int .i64 m) := by
  rw [max2_int]
  congr 2
  omega
section
variable {w w' : World} {base g bn bs : Nat} {S Sc : Nat → Prop} {vc : Value} {cs : List FnV} {d d' : D}
/-- A disk whose fields are given anew, its parts as they were. -/
theorem DiskAt.of {cells : Array Value} (h : DiskAt w base g S d) (k : Turns S w w') (hc : DiskCells w' g d' bn bs vc) (hp : Parts w' base g S bn bs vc cs Sc d'.now d'.old d'.ch) : DiskStep w w' base g S d' :=
  ⟨S, ⟨⟨bn, bs, vc, cs, Sc, hc, hp⟩, fun i hi => ⟨Nat.lt_of_lt_of_le (h.lt i hi).1 k.size, (h.lt i hi).2⟩, h.own⟩, fun _ hk => .inl hk, k⟩
/-- The map of the files has turned. -/
theorem Parts.mapped {now now' old : Files} {ch : List Chg} (h : Parts w base g S bn bs vc cs Sc now old ch) (k : w.mapTurned w' bn) (hm : MapAt w' S bn now') : Parts w' base g S bn bs vc cs Sc now' old ch :=
  have kT : Turns (fun i => i = bn) w w' := (Turns.refl (fun i => i = bn) w).turned k (.inl rfl)
  have kS : Turns S w w' := kT.mono (fun i e => by subst e; exact .inl h.sn)
  ⟨hm, h.old.step kT (fun e => h.ne.1 e.symm) (fun i e => by subst e; exact h.sn) (fun _ h => .inl h), Kd.R_step h.row (fun i hi hl => kT.block i hl (fun e => (h.sc i hi).2.2.1 e)), h.fns.imp (fun _ _ h => h.step kS (fun _ h => .inl h)), h.sc, h.sn, h.ss, h.ne⟩
/-- .. that of the synced ones. -/
theorem Parts.mapped2 {now old old' : Files} {ch : List Chg} (h : Parts w base g S bn bs vc cs Sc now old ch) (k : w.mapTurned w' bs) (hm : MapAt w' S bs old') : Parts w' base g S bn bs vc cs Sc now old' ch :=
  have kT : Turns (fun i => i = bs) w w' := (Turns.refl (fun i => i = bs) w).turned k (.inl rfl)
  have kS : Turns S w w' := kT.mono (fun i e => by subst e; exact .inl h.ss)
  ⟨h.now.step kT (fun e => h.ne.1 e) (fun i e => by subst e; exact h.ss) (fun _ h => .inl h), hm, Kd.R_step h.row (fun i hi hl => kT.block i hl (fun e => (h.sc i hi).2.2.2 e)), h.fns.imp (fun _ _ h => h.step kS (fun _ h => .inl h)), h.sc, h.sn, h.ss, h.ne⟩
/-- A change has come behind the others. -/
theorem push_step {w5 w6 : World} {d5 : D} {v1 : Value} {x : FnV} {c : Chg} (h : DiskAt w base g S d) (hT5 : Turns S w w5) (hc5 : DiskCells w5 g d5 bn bs vc) (hp5 : Parts w5 base g S bn bs vc cs Sc d5.now d5.old d5.ch) (hg : w5.grownBy w6 vc.ownBlock)
    (hR : kFn.R 61 w6 base (fun k => Sc k ∨ w5.heap.size ≤ k) v1 (cs ++ [x])) (hf : FnAt w5 S x c) : DiskCells w6 g d5 bn bs vc ∧ DiskStep w (w6.setCell ⟨g, 3, none⟩ v1) base g S { d5 with ch := d5.ch ++ [c] } := by
  have hgl := h.glt
  have hz5 := hT5.size
  have hz6 := hg.size
  have hbase : base ≤ w.heap.size := by have := h.lt g h.own; omega
  have hSlt : ∀ k, S k → k < w5.heap.size ∧ base ≤ k := fun k hk => ⟨by have := h.lt k hk; omega, (h.lt k hk).2⟩
  have hown : ∀ k, vc.ownBlock = some k → Sc k := fun k hk => hp5.row.1 k hk
  have hc6 : DiskCells w6 g d5 bn bs vc := (hg.block g (by omega) (fun e => (hp5.sc _ (hown _ e.symm)).2.1 rfl)).trans hc5
  -- from w5 on: the row's block and g have turned
  have kT : Turns (fun k => k = g ∨ vc.ownBlock = some k) w5 (w6.setCell ⟨g, 3, none⟩ v1) := ((Turns.refl _ w5).grown hg (fun i e => .inl (.inr e))).set (p := ⟨g, 3, none⟩) (.inl (.inl rfl)) v1
  have h2S : ∀ k, (k = g ∨ vc.ownBlock = some k) → S k := fun k hk => by
    rcases hk with rfl | hk
    · exact h.own
    · exact (hp5.sc k (hown k hk)).1
  have kS : Turns S w5 (w6.setCell ⟨g, 3, none⟩ v1) := kT.mono (fun i hi => .inl (h2S i hi))
  have hnb : ¬ (bn = g ∨ vc.ownBlock = some bn) := fun hk => by
    rcases hk with e | hk
    · exact hp5.ne.2.1 e.symm
    · exact (hp5.sc _ (hown _ hk)).2.2.1 rfl
  have hnbs : ¬ (bs = g ∨ vc.ownBlock = some bs) := fun hk => by
    rcases hk with e | hk
    · exact hp5.ne.2.2 e.symm
    · exact (hp5.sc _ (hown _ hk)).2.2.2 rfl
  have hsub : ∀ i, (i < w6.heap.size ∧ base ≤ i ∧ (S i ∨ w5.heap.size ≤ i)) → S i ∨ w5.heap.size ≤ i := fun i hi => hi.2.2
  refine ⟨hc6, fun k => k < w6.heap.size ∧ base ≤ k ∧ (S k ∨ w5.heap.size ≤ k), ⟨⟨bn, bs, v1, cs ++ [x], fun k => (Sc k ∨ w5.heap.size ≤ k) ∧ base ≤ k ∧ k < w6.heap.size, ?_, ⟨?_, ?_, ?_, ?_, ?_, ?_, ?_, hp5.ne⟩⟩, ?_, ?_⟩, ?_, ?_⟩
  · unfold DiskCells at hc6 ⊢
    rw [blk_set hc6 3]
    rfl
  · exact hp5.now.step kT hnb h2S hsub
  · exact hp5.old.step kT hnbs h2S hsub
  · refine Kd.R_far (Kd.R_mono (Kd.R_bound hR) (fun k hk => ⟨hk.1, hk.2.1, hk.2.2.1⟩)) (fun k hk => ?_) v1
    show k ≠ g
    rcases hk.1 with h' | h'
    · exact (hp5.sc k h').2.1
    · omega
  · exact All2.snoc (hf.step kS hsub) (hp5.fns.imp (fun _ _ h => h.step kS hsub))
  · rintro k ⟨h' | h', hb, hl⟩
    · exact ⟨⟨hl, hb, .inl (hp5.sc k h').1⟩, (hp5.sc k h').2⟩
    · refine ⟨⟨hl, hb, .inr h'⟩, by omega, fun e => ?_, fun e => ?_⟩
      · have := (hSlt bn hp5.sn).1
        omega
      · have := (hSlt bs hp5.ss).1
        omega
  · exact ⟨by have := (hSlt bn hp5.sn).1; omega, (hSlt bn hp5.sn).2, .inl hp5.sn⟩
  · exact ⟨by have := (hSlt bs hp5.ss).1; omega, (hSlt bs hp5.ss).2, .inl hp5.ss⟩
  · rintro k ⟨h1, h2, _⟩
    exact ⟨by simpa [World.setCell] using h1, h2⟩
  · exact ⟨by omega, (hSlt g h.own).2, .inl h.own⟩
  · rintro k ⟨_, _, h' | h'⟩
    · exact .inl h'
    · exact .inr (by omega)
  · exact hT5.trans kS (fun _ h => .inl h)
end
set_option maxRecDepth 100000 in
set_option maxHeartbeats 2000000 in
theorem act_off (w : World) (base g : Nat) (S : Nat → Prop) (d : D) (h : DiskAt w base g S d) (hoff : offD d = true) (v1 v2 : Value) :
    Calls Try.prog 29 #[pt g, v1, v2] w fun r w' => r = .returned (.int .i64 13) ∧ DiskStep w w' base g S { d with down := true } := by
  obtain ⟨bn, bs, vc, cs, Sc, hc, hp⟩ := h.row
  have hgl := h.glt
  obtain ⟨_, _, _, _, _, c5, c6⟩ := cells7 hc
  have f6 := blk_frozen hc 6
  have H := Lib.hid h
  have HC := Lib.hid hc
  have HP := Lib.hid hp
  have hstep : DiskStep w (w.setCell ⟨g, 6, none⟩ (.bool true)) base g S { d with down := true } :=
    DiskAt.of (cells := #[]) h ((Turns.refl S w).set (.inl h.own) _) (by
      unfold DiskCells at hc ⊢
      rw [blk_set hc 6]
      rfl) (hp.set h.own _ _)
  have HS := Lib.hid hstep
  clear hstep h hc hp
  unfold offD at hoff
  cases hd : d.down with
  | true =>
    rw [hd] at c6
    clear hoff hd c5
    go_enter Try.func29, Try.ntmps29
    go_wp2_with fail
    go_ret
    exact ⟨rfl, HS.out⟩
  | false =>
    rw [hd] at hoff c6
    have h0 : d.fuse = 0 := by simpa using hoff
    rw [h0] at c5
    clear hoff hd h0
    go_enter Try.func29, Try.ntmps29
    go_wp2_with fail
    go_ret
    exact ⟨rfl, HS.out⟩
set_option maxRecDepth 100000 in
set_option maxHeartbeats 2000000 in
theorem act_wrong (w : World) (base g : Nat) (S : Nat → Prop) (d : D) (h : DiskAt w base g S d) (hoff : offD d = false) (gw : Nat) (cw : Array Value) (eg : ∀ args w, (callFunc gw args).run Try.prog w = .ok (.enter gw args) w) (code : Int) (hcode : code ≠ 0)
    (hw : ∀ W, Turns (fun k => k = g) w W → DiskAt W base g S d → Calls Try.prog gw cw W fun e w' => e = .returned (.int .i64 code) ∧ Below W.heap.size W w') (v2 : Value) :
    Calls Try.prog 29 #[pt g, .func (.func gw) #[] cw, v2] w fun r w' => r = .returned (.int .i64 code) ∧ DiskStep w w' base g S d := by
  obtain ⟨bn, bs, vc, cs, Sc, hc, hp⟩ := h.row
  have hgl := h.glt
  obtain ⟨_, _, _, _, _, c5, c6⟩ := cells7 hc
  have f6 := blk_frozen hc 6
  unfold offD at hoff
  obtain ⟨hd, hfu⟩ := Bool.or_eq_false_iff.1 hoff
  have h0 : ¬ d.fuse = 0 := by simpa using hfu
  rw [hd] at c6
  have hT : Turns (fun k => k = g) w (w.setCell ⟨g, 6, none⟩ (.bool false)) := (Turns.refl (fun k => k = g) w).set (p := ⟨g, 6, none⟩) (.inl rfl) _
  have hD : DiskAt (w.setCell ⟨g, 6, none⟩ (.bool false)) base g S d := ⟨⟨bn, bs, vc, cs, Sc, by
    have hc' := hc
    unfold DiskCells at hc' ⊢
    rw [blk_set hc' 6, hd]
    rfl, hp.set h.own _ _⟩, fun i hi => ⟨by simpa [World.setCell] using (h.lt i hi).1, (h.lt i hi).2⟩, h.own⟩
  have hcl := hw _ hT hD
  have HT := Lib.hid (hT.mono (S' := S) (fun i e => by subst e; exact .inl h.own))
  have HD := Lib.hid hD
  have hne : ((code : Int) != 0) = true := by simpa using hcode
  have hq : (d.fuse == 0) = false := by simpa using h0
  clear h hc hp hoff hfu hd hT hD hw h0
  go_enter Try.func29, Try.ntmps29
  go_wp2_with fail
  refine hcl.mono ?_
  rintro e w2 ⟨rfl, hB⟩
  have HB := Lib.hid hB
  clear hB hcl
  go_wp2_with fail
  go_ret
  refine ⟨rfl, S, HD.out.below HB.out, fun _ hk => .inl hk, HT.out.below HB.out⟩
set_option maxRecDepth 100000 in
set_option maxHeartbeats 4000000 in
theorem act_do (w : World) (base g : Nat) (S : Nat → Prop) (d : D) (h : DiskAt w base g S d) (hs : Small d) (hoff : offD d = false) (gw : Nat) (cw : Array Value) (eg : ∀ args w, (callFunc gw args).run Try.prog w = .ok (.enter gw args) w)
    (hw : ∀ W, Turns (fun k => k = g) w W → DiskAt W base g S d → Calls Try.prog gw cw W fun e w' => e = .returned (.int .i64 0) ∧ Below W.heap.size W w') (gd : Nat) (cd : Array Value) (ed : ∀ args w, (callFunc gd args).run Try.prog w = .ok (.enter gd args) w)
    (c : Chg) (hf : FnAt w S (gd, cd) c) :
    Calls Try.prog 29 #[pt g, .func (.func gw) #[] cw, .func (.func gd) #[] cd] w fun r w' => r = .returned (.int .i64 0) ∧ DiskStep w w' base g S (actD d 0 c) := by
  obtain ⟨bn, bs, vc, cs, Sc, hc, hp⟩ := h.row
  have hgl := h.glt
  have hbase : base ≤ w.heap.size := by have := h.lt g h.own; omega
  obtain ⟨_, _, _, _, _, c5, c6⟩ := cells7 hc
  have f6 := blk_frozen hc 6
  unfold offD at hoff
  obtain ⟨hd, hfu⟩ := Bool.or_eq_false_iff.1 hoff
  have h0 : ¬ d.fuse = 0 := by simpa using hfu
  rw [hd] at c6
  have hT : Turns (fun k => k = g) w (w.setCell ⟨g, 6, none⟩ (.bool false)) := (Turns.refl (fun k => k = g) w).set (p := ⟨g, 6, none⟩) (.inl rfl) _
  have hc1 : DiskCells (w.setCell ⟨g, 6, none⟩ (.bool false)) g d bn bs vc := by
    have hc' := hc
    unfold DiskCells at hc' ⊢
    rw [blk_set hc' 6, hd]
    rfl
  have hp1 := hp.set h.own 6 (.bool false)
  have hD : DiskAt (w.setCell ⟨g, 6, none⟩ (.bool false)) base g S d := ⟨⟨bn, bs, vc, cs, Sc, hc1, hp1⟩, fun i hi => ⟨by simpa [World.setCell] using (h.lt i hi).1, (h.lt i hi).2⟩, h.own⟩
  have hcl := hw _ hT hD
  have hTS : Turns S w (w.setCell ⟨g, 6, none⟩ (.bool false)) := hT.mono (S' := S) (fun i e => by subst e; exact .inl h.own)
  have hq : (d.fuse == 0) = false := by simpa using h0
  have HH := Lib.hid h
  have HT := Lib.hid hTS
  have HD := Lib.hid hD
  have HC1 := Lib.hid hc1
  have HP1 := Lib.hid hp1
  have HF := Lib.hid hf
  have HSm := Lib.hid hs
  have hdn := Lib.hid hd
  have HOFF := Lib.hid hoff
  have hac := hs.acts
  have hfr := hs.fuse
  obtain ⟨ac, hae⟩ : ∃ ac, ac = d.acts := ⟨_, rfl⟩
  obtain ⟨fu, hfe⟩ : ∃ fu, fu = d.fuse := ⟨_, rfl⟩
  rw [← hae] at hac
  rw [← hfe] at hfr hq c5
  obtain ⟨ha0, ha1⟩ := hac
  obtain ⟨hf0, hf1⟩ := hfr
  have HAE := Lib.hid hae
  have HFE := Lib.hid hfe
  clear h hc hp hoff hfu hd hT hD hw h0 hf hs hc1 hp1 hTS hae hfe
  go_enter Try.func29, Try.ntmps29
  go_wp2_with fail
  refine hcl.mono ?_
  rintro e w2 ⟨rfl, hB⟩
  have HB := Lib.hid hB
  have hc2 : DiskCells w2 g d bn bs vc := (hB.block g (by simpa [World.setCell] using hgl)).trans HC1.out
  have hp2 := HP1.out.below hB
  have hT2 := HT.out.below hB
  have HC2 := Lib.hid hc2
  have HP2 := Lib.hid hp2
  have HT2 := Lib.hid hT2
  obtain ⟨c0, c1, c2, c3, c4, c5', c6'⟩ := cells7 hc2
  have hg2 : g < w2.heap.size := blk_lt hc2
  have q4 := blk_frozen hc2 4
  have q5 := blk_frozen hc2 5
  have q3 := blk_frozen hc2 3
  rw [← HAE.out] at c4
  rw [← HFE.out] at c5'
  have hnf := fn_not_nil gd cd
  obtain ⟨M, hM⟩ : ∃ M, M = max (fu - 1) (-1) := ⟨_, rfl⟩
  have hmx := max_is (fu - 1) (-1) M hM.symm
  have HM := Lib.hid hM
  clear hB hcl hc2 hp2 hT2 HC1 HP1 c5 c6 f6 c0 c2 c6' hq hM
  go_wp2_with fail
  obtain ⟨w4, hw4⟩ : ∃ w4, w4 = (w2.setCell ⟨g, 4, none⟩ (.int .i64 (ac + 1))).setCell ⟨g, 5, none⟩ (.int .i64 M) := ⟨_, rfl⟩
  have hc4 : DiskCells w4 g { d with down := false, acts := ac + 1, fuse := M } bn bs vc := by
    have hc' := HC2.out
    unfold DiskCells at hc' ⊢
    rw [hw4, blk_set (blk_set hc' 4 _) 5, hdn.out]
    rfl
  have hp4 : Parts w4 base g S bn bs vc cs Sc d.now d.old d.ch := by
    rw [hw4]
    exact (HP2.out.set HH.out.own 4 _).set HH.out.own 5 _
  have hT4 : Turns S w w4 := by
    rw [hw4]
    exact (HT2.out.set (p := ⟨g, 4, none⟩) (.inl HH.out.own) _).set (p := ⟨g, 5, none⟩) (.inl HH.out.own) _
  rw [← hw4]
  have HC4 := Lib.hid hc4
  have HP4 := Lib.hid hp4
  have HT4 := Lib.hid hT4
  clear hc4 hp4 hT4 hw4 HC2 HP2 HT2 HD HT hmx hnf q4 q5 c1 c3 c4 c5' hg2 q3
  refine (do_any w4 S bn d.now gd cd c (HF.out.step HT4.out (fun _ h => .inl h)) HP4.out.now HP4.out.sn (by have := HSm.out.now; unfold maxLen; omega)).mono ?_
  rintro e w5 ⟨rfl, hm5, ht5⟩
  have hp5 := HP4.out.mapped ht5 hm5
  have hT5 := HT4.out.turned ht5 (.inl hp5.sn)
  have hc5 : DiskCells w5 g { d with down := false, acts := ac + 1, fuse := M, now := appl d.now c } bn bs vc := (ht5.grown.block g (blk_lt HC4.out) (fun e => hp5.ne.2.1 (by cases e; rfl))).trans HC4.out
  obtain ⟨A, cc, rfl, hcc, _⟩ := Kd.R_reads hp5.row
  have hlen : cs.length = d.ch.length := hp5.fns.length
  obtain ⟨m, hm⟩ : ∃ m, m = cs.length := ⟨_, rfl⟩
  obtain ⟨_, _, _, c3, _, _, _⟩ := cells7 hc5
  rw [← hm] at c3
  have hg5 : g < w5.heap.size := blk_lt hc5
  have HP5 := Lib.hid hp5
  have HT5 := Lib.hid hT5
  have HC5 := Lib.hid hc5
  have HM2 := Lib.hid hm
  have HLEN := Lib.hid hlen
  clear hm5 ht5 hp5 hT5 hc5 hcc hm hlen HC4 HP4
  go_wp2_with (at_builtin; refine Kd.R_append kFn (w0 := w5) (W := w5) base rfl _ _ 51 61 .nilFunc 8 rfl Try.underlying51 infoFn rfl (by decide) (by decide) (.slice A m cc) cs (gd, cd) [encFn (gd, cd)] (fun k => Sc k ∨ w5.heap.size ≤ k) (fun k => w5.heap.size ≤ k) rfl rfl ?hp ?hokp ?hfresh ?HO ?HB ?hb2 ?hl2 ?hk2)
  case hp => rfl
  case hokp =>
    intro k hk
    refine ⟨.inr hk, fun e' => ?_⟩
    have h1 := HP5.out.row.1 k (by rw [← HM2.out]; exact e'.symm)
    have h2 := (HH.out.lt k (HP5.out.sc k h1).1).1
    have h3 : w5.heap.size ≤ k := hk
    have := HT5.out.size
    omega
  case hfresh => exact fun k hk => .inr hk
  case HO => rw [HM2.out]; exact Kd.R_mono HP5.out.row (fun k hk => .inl hk)
  case HB => exact Below.refl _ _
  case hb2 => have := HT5.out.size; omega
  case hl2 => rw [HLEN.out]; have := HSm.out.ch; omega
  case hk2 =>
    intro v1 w6 hR6 _ hg6 _
    obtain ⟨hc6, hst⟩ := push_step (x := (gd, cd)) (c := c) HH.out HT5.out HC5.out HP5.out (by rw [← HM2.out]; exact hg6) hR6 (HF.out.step HT5.out (fun _ h => .inl h))
    obtain ⟨A1, c1', rfl⟩ := Kd.R_slice hR6
    obtain ⟨_, _, _, d3, _, _, _⟩ := cells7 hc6
    have q3 := blk_frozen hc6 3
    have hl6 : g < w6.heap.size := blk_lt hc6
    have HST := Lib.hid hst
    clear hR6 hg6 hc6 hst
    go_wp2_with fail
    go_ret
    refine ⟨rfl, ?_⟩
    unfold actD offD
    rw [HOFF.out, if_neg (by simp), if_pos rfl]
    have hst := HST.out
    unfold ranD
    rw [List.length_append, List.length_singleton, HAE.out, HM.out, HFE.out] at hst
    exact hst
end Go.Proofs.Ytnjdighpdcabcaa
