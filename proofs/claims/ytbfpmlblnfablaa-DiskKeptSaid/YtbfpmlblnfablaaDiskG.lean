/- What stays of a disk's numbers, call by call; the calls beside the caller's blocks. -/
import Derived.Test.YtbfpmlblnfablaaDiskF
set_option linter.unusedVariables false
set_option linter.unusedSimpArgs false
namespace Go.Proofs.Ytbfpmlblnfablaa
open Go.RowKit Go.Proofs.YtbfpmlblnfablaaW.PrintWords Go.Proofs.YtbfpmlblnfablaaW.PrintLast Go.Proofs.YtbfpmlblnfablaaW.PrintMore

def Each (fs : Files) : Prop := ∀ p ∈ fs, p.2.length ≤ 65536
theorem Each.put {fs : Files} (h : Each fs) {s : ByteArray} {t : List Int} (ht : t.length ≤ 65536) : Each (put fs s t) := fun p hp => by
  rcases (mem_ins _).1 hp with rfl | hp
  · exact ht
  · exact h p (mem_del.1 hp).1
theorem Each.del {fs : Files} (h : Each fs) (s : ByteArray) : Each (del fs s) := fun p hp => h p (mem_del.1 hp).1
theorem Each.appl {fs : Files} (h : Each fs) {c : Chg} (hc : c.t.length ≤ 65536) : Each (appl fs c) := by
  unfold Ytbfpmlblnfablaa.appl
  split
  · exact h.put hc
  · split
    · cases hl : look fs c.a with
      | none => exact h
      | some t => exact (h.del c.a).put (h _ (look_mem hl))
    · exact h.del c.a
theorem Each.crash : ∀ {cs : List Chg} {fs : Files} {ks : List Bool}, Each fs → (∀ c ∈ cs, c.t.length ≤ 65536) → Each (crashF fs cs ks)
  | [], fs, ks, h, _ => by rw [crashF_nil]; exact h
  | c :: cs, fs, [], h, _ => by rw [crashF_none]; exact h
  | c :: cs, fs, k :: ks, h, hc => by
    rw [crashF]
    refine Each.crash ?_ (fun c' h' => hc c' (by simp [h']))
    split
    · exact h.appl (hc c (by simp))
    · exact h
structure SmallI (n : Nat) (d : D) : Prop where
  now : d.now.length ≤ n
  old : d.old.length + d.ch.length ≤ n
  acts : 0 ≤ d.acts ∧ d.acts ≤ n
  fuse : -1 ≤ d.fuse ∧ d.fuse ≤ 9223372036854775807
  room : 0 ≤ d.room ∧ d.room ≤ 9223372036854775807
  each : Each d.now ∧ Each d.old ∧ ∀ c ∈ d.ch, c.t.length ≤ 65536
section
variable {n : Nat} {d : D}
theorem SmallI.small (h : SmallI n d) (hn : n ≤ 1000000) : Small d :=
  ⟨by have := h.now; omega, by have := h.old; omega, by have := h.old; omega, ⟨h.acts.1, by have := h.acts.2; omega⟩, h.fuse, h.room, h.each⟩
theorem SmallI.le {m : Nat} (h : SmallI n d) (hn : n ≤ m) : SmallI m d :=
  ⟨by have := h.now; omega, by have := h.old; omega, ⟨h.acts.1, by have := h.acts.2; omega⟩, h.fuse, h.room, h.each⟩
theorem SmallI.off (h : SmallI n d) : SmallI n { d with down := true } := ⟨h.now, h.old, h.acts, h.fuse, h.room, h.each⟩
theorem SmallI.ran (h : SmallI n d) : SmallI (n + 1) (ranD d) :=
  ⟨by have := h.now; show d.now.length ≤ _; omega, by have := h.old; show d.old.length + d.ch.length ≤ _; omega, ⟨by have := h.acts.1; show 0 ≤ d.acts + 1; omega, by have := h.acts.2; show d.acts + 1 ≤ _; omega⟩,
    by have := h.fuse; show -1 ≤ max (d.fuse - 1) (-1) ∧ max (d.fuse - 1) (-1) ≤ _; omega, h.room, h.each⟩
theorem SmallI.act (h : SmallI n d) (code : Int) (c : Chg) (hc : code = 0 → c.t.length ≤ 65536) : SmallI (n + 1) (actD d code c) := by
  unfold actD
  split
  · exact (h.off).le (Nat.le_succ _)
  · split
    · rename_i _ h0
      have hr := h.ran
      refine ⟨?_, ?_, hr.acts, hr.fuse, hr.room, h.each.1.appl (hc h0), h.each.2.1, fun c' hc' => ?_⟩
      · have := length_appl d.now c
        have := h.now
        show (appl d.now c).length ≤ _
        omega
      · have := h.old
        show d.old.length + (d.ch ++ [c]).length ≤ _
        rw [List.length_append, List.length_singleton]
        omega
      · rcases List.mem_append.1 hc' with h' | h'
        · exact h.each.2.2 c' h'
        · rw [List.mem_singleton.1 h']
          exact hc h0
    · exact h.le (Nat.le_succ _)
theorem wrE_le {s : ByteArray} {k : Nat} (h : wrE d s k = 0) : k ≤ 65536 := by
  unfold wrE at h
  split at h
  · split at h
    · cases h
    · rename_i h2
      omega
  · cases h
theorem SmallI.write (h : SmallI n d) (s : ByteArray) (l : List Int) : SmallI (n + 1) (writeD d s l) := h.act _ _ (fun h0 => wrE_le h0)
theorem SmallI.rename (h : SmallI n d) (s t : ByteArray) : SmallI (n + 1) (renameD d s t) := h.act _ _ (fun _ => Nat.zero_le _)
theorem SmallI.remove (h : SmallI n d) (s : ByteArray) : SmallI (n + 1) (remD d s) := h.act _ _ (fun _ => Nat.zero_le _)
theorem SmallI.sync (h : SmallI n d) : SmallI (n + 1) (syncD d) := by
  unfold syncD
  split
  · exact h.off.le (Nat.le_succ _)
  · have hr := h.ran
    exact ⟨hr.now, by have := h.now; show d.now.length + 0 ≤ _; omega, hr.acts, hr.fuse, hr.room, h.each.1, h.each.1, fun c hc => by cases hc⟩
theorem SmallI.fuseI (h : SmallI n d) (k : Int) (hk : k ≤ 9223372036854775807) : SmallI (n + 1) (fuseD d k) :=
  (⟨h.now, h.old, h.acts, by show -1 ≤ max k (-1) ∧ max k (-1) ≤ _; omega, h.room, h.each⟩ : SmallI n (fuseD d k)).le (Nat.le_succ _)
theorem SmallI.crash (h : SmallI n d) (ks : List Bool) : SmallI (n + 1) (crashD d ks) := by
  have hl := length_crash d.ch d.old ks
  have ho := h.old
  exact (⟨by show (crashF d.old d.ch ks).length ≤ n; omega, by show (crashF d.old d.ch ks).length + 0 ≤ n; omega, h.acts, by show -1 ≤ (-1 : Int) ∧ (-1 : Int) ≤ _; omega, h.room, h.each.2.1.crash h.each.2.2, h.each.2.1.crash h.each.2.2, fun c hc => by cases hc⟩ : SmallI n (crashD d ks)).le (Nat.le_succ _)
theorem SmallI.new (room : Int) (hr : room ≤ 9223372036854775807) : SmallI 0 (newD room) :=
  ⟨Nat.le_refl _, Nat.le_refl _, ⟨Int.le_refl _, Int.le_refl _⟩, by show -1 ≤ (-1 : Int) ∧ (-1 : Int) ≤ _; omega, by show 0 ≤ max room 0 ∧ max room 0 ≤ _; omega, ⟨(fun p hp => by cases hp), (fun p hp => by cases hp), (fun c hc => by cases hc)⟩⟩
end
section
variable {w0 w : World} {F : Nat → Prop} {g : Nat} {d : D}
abbrev Own (w0 : World) (F : Nat → Prop) : Nat → Prop := fun k => w0.heap.size ≤ k ∧ ¬ F k
theorem write_F (h : DiskF w0 w F g d) (hsm : Small d) (s : ByteArray) (hs : s.size ≤ maxLen) (A : Option Addr) (n c : Nat) (l : List Int) (hl : l.length = n) (hC : Kd.C (Kd.int .u8) w A n l) (hc : n ≤ c) (hn : n ≤ 140737488351232) :
    Calls Try.prog 12 #[pt g, .string s, .slice A n c] w fun r w' => r = .returned (.int .i64 (writeE d s l)) ∧ DiskF w0 w' F g (writeD d s l) ∧ Turns (Own w0 F) w w' :=
  h.step (fun S hS => write_any w _ g S d hS hsm s hs A n c l hl hC hc hn)
theorem rename_F (h : DiskF w0 w F g d) (hsm : Small d) (s t : ByteArray) (hs : s.size ≤ maxLen) (ht : t.size ≤ maxLen) :
    Calls Try.prog 14 #[pt g, .string s, .string t] w fun r w' => r = .returned (.int .i64 (renameE d s t)) ∧ DiskF w0 w' F g (renameD d s t) ∧ Turns (Own w0 F) w w' :=
  h.step (fun S hS => rename_any w _ g S d hS hsm s t hs ht)
theorem remove_F (h : DiskF w0 w F g d) (hsm : Small d) (s : ByteArray) (hs : s.size ≤ maxLen) :
    Calls Try.prog 42 #[pt g, .string s] w fun r w' => r = .returned (.int .i64 (remE d s)) ∧ DiskF w0 w' F g (remD d s) ∧ Turns (Own w0 F) w w' :=
  h.step (fun S hS => remove_any w _ g S d hS hsm s hs)
theorem sync_F (h : DiskF w0 w F g d) (hsm : Small d) :
    Calls Try.prog 13 #[pt g] w fun r w' => r = .returned (.int .i64 (syncE d)) ∧ DiskF w0 w' F g (syncD d) ∧ Turns (Own w0 F) w w' :=
  h.step (fun S hS => sync_any w _ g S d hS hsm)
theorem fuse_F (h : DiskF w0 w F g d) (n : Int) :
    Calls Try.prog 19 #[pt g, .int .i64 n] w fun r w' => r = .returned (.tuple #[]) ∧ DiskF w0 w' F g (fuseD d n) ∧ Turns (Own w0 F) w w' :=
  h.step (fun S hS => fuse_any w _ g S d hS n)
theorem crash_F (h : DiskF w0 w F g d) (hsm : Small d) (Ak : Option Addr) (nk ck : Nat) (ks : List Bool) (hk : ks.length = nk) (hC : Kd.C Kd.bool w Ak nk ks) :
    Calls Try.prog 16 #[pt g, .slice Ak nk ck] w fun r w' => r = .returned (.tuple #[]) ∧ DiskF w0 w' F g (crashD d ks) ∧ Turns (Own w0 F) w w' :=
  h.step (fun S hS => crash_any w _ g S d hS hsm Ak nk ck ks hk hC)
theorem read_F (h : DiskF w0 w F g d) (hsm : Small d) (s : ByteArray) (hs : s.size ≤ maxLen) :
    Calls Try.prog 15 #[pt g, .string s] w fun r w' => ∃ v, r = .returned (.tuple #[v, .int .i64 (readE d s)]) ∧ Kd.R (Kd.int .u8) 5 w' w.heap.size (fun _ => True) v (readB d s) ∧ Below w.heap.size w w' :=
  h.look (fun S hS => read_any w _ g S d hS hsm s hs)
theorem used_F (h : DiskF w0 w F g d) (hsm : Small d) : Calls Try.prog 17 #[pt g] w fun r w' => r = .returned (.int .i64 (used d.now : Int)) ∧ Below w.heap.size w w' := h.look (fun S hS => used_any w _ g S d hS hsm)
theorem acts_F (h : DiskF w0 w F g d) : Calls Try.prog 21 #[pt g] w fun r w' => r = .returned (.int .i64 d.acts) ∧ w' = w := h.look (fun S hS => acts_any w _ g S d hS)
theorem down_F (h : DiskF w0 w F g d) : Calls Try.prog 22 #[pt g] w fun r w' => r = .returned (.bool d.down) ∧ w' = w := h.look (fun S hS => down_any w _ g S d hS)
theorem loose_F (h : DiskF w0 w F g d) : Calls Try.prog 23 #[pt g] w fun r w' => r = .returned (.int .i64 (d.ch.length : Int)) ∧ w' = w := h.look (fun S hS => loose_any w _ g S d hS)
end
end Go.Proofs.Ytbfpmlblnfablaa
