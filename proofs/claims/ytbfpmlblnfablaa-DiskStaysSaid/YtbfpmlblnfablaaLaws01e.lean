/- Chapter 01: DiskStays, plain. -/
import Derived.Test.YtbfpmlblnfablaaDiskJ
set_option linter.unusedVariables false
set_option linter.unusedSimpArgs false
namespace Go.Proofs.Ytbfpmlblnfablaa
open Go.RowKit Go.Proofs.YtbfpmlblnfablaaW.PrintWords Go.Proofs.YtbfpmlblnfablaaW.PrintLast Go.Proofs.YtbfpmlblnfablaaW.PrintMore

/-- Does a call touch a name? -/
def touches (nm : ByteArray) (o : Op1) : Bool := decide (o.a = nm) || (decide (o.what = 2) && decide (o.tn = nm))
/-- A change that touches no name that a call of l does not touch. -/
def Comes (l : List Op1) (c : Chg) : Prop := ∃ o ∈ l, c.a = o.a ∧ (c.k = 1 → o.what = 2 ∧ c.b = o.tn)
/-- A disk whose synced files are fs, and whose changes come of l. -/
structure Since0 (fs : Files) (l : List Op1) (d : D) : Prop where
  old : d.old = fs
  ch : ∀ c ∈ d.ch, Comes l c
section
variable {fs : Files} {l : List Op1} {d : D}
theorem Since0.mono {l' : List Op1} (h : Since0 fs l d) (hl : ∀ o ∈ l, o ∈ l') : Since0 fs l' d := ⟨h.old, fun c hc => by
  obtain ⟨o, ho, r⟩ := h.ch c hc
  exact ⟨o, hl o ho, r⟩⟩
theorem Since0.act (h : Since0 fs l d) (code : Int) (c : Chg) (hc : Comes l c) : Since0 fs l (actD d code c) := by
  unfold actD
  split
  · exact ⟨h.old, h.ch⟩
  · split
    · refine ⟨h.old, fun c' hc' => ?_⟩
      rcases List.mem_append.1 hc' with h' | h'
      · exact h.ch c' h'
      · rw [List.mem_singleton.1 h']
        exact hc
    · exact h
theorem Since0.does (h : Since0 fs l d) (o : Op1) (ho : o ∈ l) (h4 : o.what ≠ 4) (h6 : o.what ≠ 6) : Since0 fs l (doesD d o) := by
  unfold doesD
  split
  · exact h.act _ _ ⟨o, ho, rfl, fun e => by cases e⟩
  · split
    · exact h.act _ _ ⟨o, ho, rfl, fun e => by cases e⟩
    · split
      · rename_i h2
        exact h.act _ _ ⟨o, ho, rfl, fun _ => ⟨h2, rfl⟩⟩
      · split
        · exact h.act _ _ ⟨o, ho, rfl, fun e => by cases e⟩
        · try rw [if_neg h4]
          split
          · exact ⟨h.old, h.ch⟩
          · try rw [if_neg h6]
            exact h
theorem look_appl {s : ByteArray} {c : Chg} (hl : ∀ o ∈ l, touches s o = false) (hc : Comes l c) (gs : Files) : look (appl gs c) s = look gs s := by
  obtain ⟨o, ho, ha, hb⟩ := hc
  have ht := hl o ho
  unfold touches at ht
  obtain ⟨t1, t2⟩ := Bool.or_eq_false_iff.1 ht
  have hne : c.a ≠ s := fun e => by rw [← ha, e] at t1; simp at t1
  unfold appl
  split
  · exact look_put_far _ hne _
  · split
    · rename_i h1
      obtain ⟨b1, b2⟩ := hb h1
      have hnb : c.b ≠ s := fun e => by
        rw [b1, ← b2, e] at t2
        simp at t2
      cases hq : look gs c.a with
      | none => rfl
      | some t =>
        show look (put (del gs c.a) c.b t) s = _
        rw [look_put_far _ hnb, look_del_other _ hne]
    · exact look_del_other _ hne
theorem look_crash {s : ByteArray} (hl : ∀ o ∈ l, touches s o = false) : ∀ (cs : List Chg) (gs : Files) (ks : List Bool), (∀ c ∈ cs, Comes l c) → look (crashF gs cs ks) s = look gs s
  | [], gs, ks, _ => by rw [crashF_nil]
  | c :: cs, gs, [], _ => by rw [crashF_none]
  | c :: cs, gs, k :: ks, h => by
    rw [crashF, look_crash hl cs _ ks (fun c' h' => h c' (by simp [h']))]
    split
    · exact look_appl hl (h c (by simp)) gs
    · rfl
/-- What stays. -/
theorem Since0.stays (h : Since0 fs l d) {s : ByteArray} {t : List Int} (hl : ∀ o ∈ l, touches s o = false) (hs : look fs s = some t) (ks : List Bool) : readE (crashD d ks) s = 0 ∧ readB (crashD d ks) s = t := by
  have hk : look (crashD d ks).now s = some t := by
    show look (crashF d.old d.ch ks) s = some t
    rw [look_crash hl d.ch d.old ks h.ch, h.old]
    exact hs
  unfold readE readB
  rw [hk]
  exact ⟨rfl, rfl⟩
end
theorem Since0.of {room : Int} {fs : Files} : Since0 fs [] (ofD room fs) := ⟨rfl, fun c hc => by cases hc⟩
end Go.Proofs.Ytbfpmlblnfablaa
