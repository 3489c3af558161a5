/- Sync, Read, Crash and what is asked of a disk. -/
import Derived.Test.YtbfpmlblnfablaaDiskY
import Derived.Test.YtbfpmlblnfablaaShelf
set_option linter.unusedVariables false
set_option linter.unusedSimpArgs false
namespace Go.Proofs.Ytbfpmlblnfablaa
open Go.RowKit Go.Proofs.YtbfpmlblnfablaaW.PrintWords Go.Proofs.YtbfpmlblnfablaaW.PrintLast Go.Proofs.YtbfpmlblnfablaaW.PrintMore
attribute [local go_sem] max_two

set_option maxRecDepth 100000 in
set_option maxHeartbeats 4000000 in
theorem act_nil (w : World) (base g : Nat) (S : Nat → Prop) (d : D) (h : DiskAt w base g S d) (hs : Small d) (hoff : offD d = false) (gw : Nat) (cw : Array Value) (eg : ∀ args w, (callFunc gw args).run Try.prog w = .ok (.enter gw args) w)
    (hw : ∀ W, Turns (fun k => k = g) w W → DiskAt W base g S d → Calls Try.prog gw cw W fun e w' => e = .returned (.int .i64 0) ∧ Below W.heap.size W w') :
    Calls Try.prog 33 #[pt g, .func (.func gw) #[] cw, .nilFunc] w fun r w' => r = .returned (.int .i64 0) ∧ DiskStep w w' base g S (ranD d) := by
  obtain ⟨bn, bs, vc, cs, Sc, hc, hp⟩ := h.row
  have hgl := h.glt
  have hbase : base ≤ w.heap.size := by have := h.lt g h.own; omega
  obtain ⟨_, _, _, _, _, c5, c6⟩ := cells7 hc
  have f6 := blk_frozen hc 6
  unfold offD at hoff
  obtain ⟨hd, hfu⟩ := Bool.or_eq_false_iff.1 hoff
  have h0 : ¬ d.fuse = 0 := by simpa using hfu
  rw [hd] at c6
  have hT : Turns (fun k => k = g) w (w.setCell ⟨g, 6, none⟩ (.bool false)) := (Turns.refl (fun k => k = g) w).set (p := ⟨g, 6, none⟩) (.inl rfl) _
  have hc1 : DiskCells (w.setCell ⟨g, 6, none⟩ (.bool false)) g d bn bs vc := by
    have hc' := hc
    unfold DiskCells at hc' ⊢
    rw [blk_set hc' 6, hd]
    rfl
  have hp1 := hp.set h.own 6 (.bool false)
  have hD : DiskAt (w.setCell ⟨g, 6, none⟩ (.bool false)) base g S d := ⟨⟨bn, bs, vc, cs, Sc, hc1, hp1⟩, fun i hi => ⟨by simpa [World.setCell] using (h.lt i hi).1, (h.lt i hi).2⟩, h.own⟩
  have hcl := hw _ hT hD
  have hTS : Turns S w (w.setCell ⟨g, 6, none⟩ (.bool false)) := hT.mono (S' := S) (fun i e => by subst e; exact .inl h.own)
  have hq : (d.fuse == 0) = false := by simpa using h0
  have HH := Lib.hid h
  have HT := Lib.hid hTS
  have HD := Lib.hid hD
  have HC1 := Lib.hid hc1
  have HP1 := Lib.hid hp1
  have HSm := Lib.hid hs
  have hdn := Lib.hid hd
  have HOFF := Lib.hid hoff
  have hac := hs.acts
  have hfr := hs.fuse
  obtain ⟨ac, hae⟩ : ∃ ac, ac = d.acts := ⟨_, rfl⟩
  obtain ⟨fu, hfe⟩ : ∃ fu, fu = d.fuse := ⟨_, rfl⟩
  rw [← hae] at hac
  rw [← hfe] at hfr hq c5
  obtain ⟨ha0, ha1⟩ := hac
  obtain ⟨hf0, hf1⟩ := hfr
  have HAE := Lib.hid hae
  have HFE := Lib.hid hfe
  clear h hc hp hoff hfu hd hT hD hw h0 hs hc1 hp1 hTS hae hfe
  go_enter Try.func33, Try.ntmps33
  go_wp2_with fail
  refine hcl.mono ?_
  rintro e w2 ⟨rfl, hB⟩
  have HB := Lib.hid hB
  have hc2 : DiskCells w2 g d bn bs vc := (hB.block g (by simpa [World.setCell] using hgl)).trans HC1.out
  have hp2 := HP1.out.below hB
  have hT2 := HT.out.below hB
  have HC2 := Lib.hid hc2
  have HP2 := Lib.hid hp2
  have HT2 := Lib.hid hT2
  obtain ⟨c0, c1, c2, c3, c4, c5', c6'⟩ := cells7 hc2
  have hg2 : g < w2.heap.size := blk_lt hc2
  have q4 := blk_frozen hc2 4
  have q5 := blk_frozen hc2 5
  have q3 := blk_frozen hc2 3
  rw [← HAE.out] at c4
  rw [← HFE.out] at c5'
  have hnf := nil_is_nil
  obtain ⟨M, hM⟩ : ∃ M, M = max (fu - 1) (-1) := ⟨_, rfl⟩
  have hmx := max_is (fu - 1) (-1) M hM.symm
  have HM := Lib.hid hM
  clear hB hcl hc2 hp2 hT2 HC1 HP1 c5 c6 f6 c0 c2 c6' hq hM
  obtain ⟨w4, hw4⟩ : ∃ w4, w4 = (w2.setCell ⟨g, 4, none⟩ (.int .i64 (ac + 1))).setCell ⟨g, 5, none⟩ (.int .i64 M) := ⟨_, rfl⟩
  have hc4 : DiskCells w4 g { d with down := false, acts := ac + 1, fuse := M } bn bs vc := by
    have hc' := HC2.out
    unfold DiskCells at hc' ⊢
    rw [hw4, blk_set (blk_set hc' 4 _) 5, hdn.out]
    rfl
  have hp4 : Parts w4 base g S bn bs vc cs Sc d.now d.old d.ch := by
    rw [hw4]
    exact (HP2.out.set HH.out.own 4 _).set HH.out.own 5 _
  have hT4 : Turns S w w4 := by
    rw [hw4]
    exact (HT2.out.set (p := ⟨g, 4, none⟩) (.inl HH.out.own) _).set (p := ⟨g, 5, none⟩) (.inl HH.out.own) _
  have HST := Lib.hid (show DiskStep w w4 base g S (ranD d) by
    unfold ranD
    rw [← HAE.out, ← HFE.out, ← HM.out]
    exact ⟨S, ⟨⟨bn, bs, vc, cs, Sc, hc4, hp4⟩, fun i hi => ⟨Nat.lt_of_lt_of_le (HH.out.lt i hi).1 hT4.size, (HH.out.lt i hi).2⟩, HH.out.own⟩, fun _ hk => .inl hk, hT4⟩)
  have HW4 := Lib.hid hw4
  clear hc4 hp4 hT4 hw4
  go_wp2_with fail
  go_ret
  rw [← HW4.out]
  exact ⟨rfl, HST.out⟩
theorem clone_map (w : World) (b : Nat) (vs : List (ByteArray × Value)) (hown : OwnM w b vs) :
    Calls Try.prog 38 #[.map (some b)] w fun e w' => e = .returned (.map (some w.heap.size)) ∧ OwnM w' w.heap.size vs ∧ Below w.heap.size w w' := by
  have hc : Calls Try.prog 38 #[.map (some b)] w fun e w' => e = .returned (.map (some w.heap.size)) ∧ w'.ownsMap Try.prog 9 rdSl w.heap.size vs.length (mapW vs) ∧ w'.ownsMap Try.prog 9 rdSl b vs.length (mapW vs) ∧ Below w.heap.size w w' := AnyW.maps_Clone_owns Try.cloneM _ _ _ _ _ _ hown
  refine hc.mono ?_
  rintro e w' ⟨rfl, h1, _, h2⟩
  exact ⟨rfl, h1, h2⟩
def syncE (d : D) : Int := actE d 0
def syncD (d : D) : D := if offD d = true then { d with down := true } else { ranD d with old := d.now, ch := [] }
section
variable {w w' : World} {base g bn bs : Nat} {S Sc : Nat → Prop} {vc : Value} {cs : List FnV} {d : D}
/-- Memory has come, and with it a map of files: the disk has it as one of its own. -/
theorem MapAt.cloned {nb : Nat} {fs : Files} {vs : List (ByteArray × Value)} (h2 : All2 (FileRow w S) vs fs) (hB : Below w.heap.size w w') (hown : OwnM w' nb vs) {S' : Nat → Prop} (hs : ∀ i, S' i → S i ∨ w.heap.size ≤ i) : MapAt w' S' nb fs :=
  ⟨vs, hown, h2.imp (fun _ _ h => h.step (Turns.of_below hB S) hs)⟩
end
set_option maxRecDepth 100000 in
set_option maxHeartbeats 2000000 in
theorem sync_any (w : World) (base g : Nat) (S : Nat → Prop) (d : D) (h : DiskAt w base g S d) (hsm : Small d) :
    Calls Try.prog 13 #[pt g] w fun r w' => r = .returned (.int .i64 (syncE d)) ∧ DiskStep w w' base g S (syncD d) := by
  unfold syncE actE syncD
  cases hoff : offD d with
  | true =>
    have ha := act_off w base g S d h hoff (.func (.func 37) #[] #[]) .nilFunc
    have HA := Lib.hid ha
    clear ha h hoff hsm
    simp only [if_true]
    go_enter Try.func13, Try.ntmps13
    go_wp2_with fail
    refine HA.out.mono ?_
    rintro r w' ⟨rfl, hst⟩
    have HS := Lib.hid hst
    clear hst
    go_wp2_with fail
    go_ret
    exact ⟨rfl, HS.out⟩
  | false =>
    have ha := act_nil w base g S d h hsm hoff _ #[] enters_s1 (fun W _ _ => wrong_sync W)
    have HA := Lib.hid ha
    have HH := Lib.hid h
    clear ha h hoff hsm
    simp only [Bool.false_eq_true, if_false]
    obtain ⟨d', hd'⟩ : ∃ d' : D, d' = { ranD d with old := d.now, ch := [] } := ⟨_, rfl⟩
    rw [← hd']
    have HD' := Lib.hid hd'
    clear hd'
    go_enter Try.func13, Try.ntmps13
    go_wp2_with fail
    refine HA.out.mono ?_
    rintro r w2 ⟨rfl, S2, hD2, hS2, hT2⟩
    obtain ⟨bn, bs, vc, cs, Sc, hc, hp⟩ := hD2.row
    obtain ⟨vs, hown, h2⟩ := id hp.now
    obtain ⟨_, c1, _, _, _, _, _⟩ := cells7 hc
    have hg2 : g < w2.heap.size := blk_lt hc
    have H2 := Lib.hid (And.intro hD2 (And.intro hS2 (And.intro hT2 (And.intro hc (And.intro hp h2)))))
    have HO := Lib.hid hown
    clear hD2 hS2 hT2 hc hp hown h2
    go_wp2_with fail
    refine (clone_map w2 bn vs HO.out).mono ?_
    rintro r w3 ⟨rfl, ho3, hB3⟩
    have hc3 := (hB3.block g hg2).trans H2.out.2.2.2.1
    have HC3 := Lib.hid hc3
    obtain ⟨_, _, c2, c3, _, _, _⟩ := cells7 hc3
    have q2 := blk_frozen hc3 2
    have q3 := blk_frozen hc3 3
    have hg3 : g < w3.heap.size := blk_lt hc3
    have HO3 := Lib.hid ho3
    have HB3 := Lib.hid hB3
    clear ho3 hB3 hc3
    go_wp2_with fail
    go_ret
    refine ⟨rfl, ?_⟩
    rw [HD'.out]
    obtain ⟨hD2, hS2, hT2, hc, hp, h2⟩ := H2.out
    have hz := HB3.out.size
    have h23 := hT2.size
    have hlt := HO3.out.lt
    have hgw := HH.out.glt
    have kT : Turns (fun k => k = g) w3 ((w3.setCell ⟨g, 2, none⟩ (.map (some w2.heap.size))).setCell ⟨g, 3, none⟩ (.slice none 0 0)) := ((Turns.refl (fun k => k = g) w3).set (p := ⟨g, 2, none⟩) (.inl rfl) _).set (p := ⟨g, 3, none⟩) (.inl rfl) _
    have kT2 : Turns (fun k => k = g) w2 ((w3.setCell ⟨g, 2, none⟩ (.map (some w2.heap.size))).setCell ⟨g, 3, none⟩ (.slice none 0 0)) := (Turns.of_below HB3.out (fun k => k = g)).trans kT (fun _ h => .inl h)
    have hgS : ∀ i, i = g → S2 i := fun i e => by subst e; exact hD2.own
    have hsub : ∀ i, (S2 i ∨ i = w2.heap.size) → S2 i ∨ w2.heap.size ≤ i := fun i hi => by
      rcases hi with h | h
      · exact .inl h
      · exact .inr (by omega)
    refine ⟨fun k => S2 k ∨ k = w2.heap.size, ⟨⟨bn, w2.heap.size, .slice none 0 0, [], fun _ => False, ?_, ⟨?_, ?_, ?_, ?_, ?_, ?_, ?_, ?_⟩⟩, ?_, ?_⟩, ?_, ?_⟩
    · have hc3 := HC3.out
      unfold DiskCells
      rw [blk_set (blk_set hc3 2 _) 3]
      rfl
    · exact hp.now.step kT2 (fun e => hp.ne.2.1 e.symm) hgS hsub
    · refine (MapAt.cloned (S' := fun k => S2 k ∨ k = w2.heap.size) h2 HB3.out HO3.out hsub).step kT (fun e => ?_) (fun i e => .inl (hgS i e)) (fun _ h => .inl h)
      omega
    · exact Kd.R_nil _ _ _ _ _
    · trivial
    · exact fun k hk => hk.elim
    · exact .inl hp.sn
    · exact .inr rfl
    · have := hp.now.lt
      exact ⟨by omega, hp.ne.2.1, by omega⟩
    · intro i hi
      have hzz : ((w3.setCell ⟨g, 2, none⟩ (.map (some w2.heap.size))).setCell ⟨g, 3, none⟩ (.slice none 0 0)).heap.size = w3.heap.size := by simp [World.setCell]
      rw [hzz]
      rcases hi with h | h
      · have := hD2.lt i h
        exact ⟨by omega, this.2⟩
      · have := (hD2.lt g hD2.own)
        exact ⟨by omega, by omega⟩
    · exact .inl hD2.own
    · intro k hk
      rcases hk with h | h
      · exact hS2 k h
      · exact .inr (by omega)
    · exact hT2.trans (kT2.mono (S' := S2) (fun i hi => .inl (hgS i hi))) hS2
end Go.Proofs.Ytbfpmlblnfablaa
