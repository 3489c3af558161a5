/- What is asked of a disk; a fuse; a new disk. -/
import Derived.Test.YtbfpmlblnfablaaDiskZ
set_option linter.unusedVariables false
set_option linter.unusedSimpArgs false
namespace Go.Proofs.Ytbfpmlblnfablaa
open Go.RowKit Go.Proofs.YtbfpmlblnfablaaW.PrintWords Go.Proofs.YtbfpmlblnfablaaW.PrintLast Go.Proofs.YtbfpmlblnfablaaW.PrintMore
attribute [local go_sem] max_two

set_option maxRecDepth 100000 in
theorem acts_any (w : World) (base g : Nat) (S : Nat → Prop) (d : D) (h : DiskAt w base g S d) :
    Calls Try.prog 21 #[pt g] w fun r w' => r = .returned (.int .i64 d.acts) ∧ w' = w := by
  obtain ⟨bn, bs, vc, cs, Sc, hc, hp⟩ := h.row
  obtain ⟨_, _, _, _, c4, _, _⟩ := cells7 hc
  clear h hc hp
  go_enter Try.func21, Try.ntmps21
  go_wp2_with fail
  go_ret
  exact ⟨rfl, rfl⟩
set_option maxRecDepth 100000 in
theorem down_any (w : World) (base g : Nat) (S : Nat → Prop) (d : D) (h : DiskAt w base g S d) :
    Calls Try.prog 22 #[pt g] w fun r w' => r = .returned (.bool d.down) ∧ w' = w := by
  obtain ⟨bn, bs, vc, cs, Sc, hc, hp⟩ := h.row
  obtain ⟨_, _, _, _, _, _, c6⟩ := cells7 hc
  clear h hc hp
  go_enter Try.func22, Try.ntmps22
  go_wp2_with fail
  go_ret
  exact ⟨rfl, rfl⟩
set_option maxRecDepth 100000 in
theorem loose_any (w : World) (base g : Nat) (S : Nat → Prop) (d : D) (h : DiskAt w base g S d) :
    Calls Try.prog 23 #[pt g] w fun r w' => r = .returned (.int .i64 (d.ch.length : Int)) ∧ w' = w := by
  obtain ⟨bn, bs, vc, cs, Sc, hc, hp⟩ := h.row
  obtain ⟨_, _, _, c3, _, _, _⟩ := cells7 hc
  obtain ⟨A, c, rfl, _, _⟩ := Kd.R_reads hp.row
  have hl := hp.fns.length
  rw [hl] at c3
  clear h hc hp hl
  go_enter Try.func23, Try.ntmps23
  go_wp2_with fail
  go_ret
  exact ⟨rfl, rfl⟩
def fuseD (d : D) (n : Int) : D := { d with fuse := max n (-1) }
set_option maxRecDepth 100000 in
theorem fuse_any (w : World) (base g : Nat) (S : Nat → Prop) (d : D) (h : DiskAt w base g S d) (n : Int) :
    Calls Try.prog 19 #[pt g, .int .i64 n] w fun r w' => r = .returned (.tuple #[]) ∧ DiskStep w w' base g S (fuseD d n) := by
  obtain ⟨bn, bs, vc, cs, Sc, hc, hp⟩ := h.row
  have hgl := h.glt
  obtain ⟨_, _, _, _, _, c5, _⟩ := cells7 hc
  have f5 := blk_frozen hc 5
  obtain ⟨M, hM⟩ : ∃ M, M = max n (-1) := ⟨_, rfl⟩
  have hmx := max_is n (-1) M hM.symm
  have hst : DiskStep w (w.setCell ⟨g, 5, none⟩ (.int .i64 M)) base g S (fuseD d n) := DiskAt.of (cells := #[]) h ((Turns.refl S w).set (.inl h.own) _) (by
    unfold fuseD
    rw [← hM]
    unfold DiskCells at hc ⊢
    rw [blk_set hc 5]
    rfl) (hp.set h.own _ _)
  have HS := Lib.hid hst
  clear h hc hp hst hM
  go_enter Try.func19, Try.ntmps19
  go_wp2_with fail
  go_end0
  exact ⟨rfl, HS.out⟩
def readE (d : D) (s : ByteArray) : Int := if d.down = true then 13 else if (look d.now s).isSome = true then 0 else 12
def readB (d : D) (s : ByteArray) : List Int := if d.down = true then [] else (look d.now s).getD []
set_option maxRecDepth 100000 in
set_option maxHeartbeats 2000000 in
theorem read_any (w : World) (base g : Nat) (S : Nat → Prop) (d : D) (h : DiskAt w base g S d) (hsm : Small d) (s : ByteArray) (hs : s.size ≤ maxLen) :
    Calls Try.prog 15 #[pt g, .string s] w fun r w' => ∃ v, r = .returned (.tuple #[v, .int .i64 (readE d s)]) ∧ Kd.R (Kd.int .u8) 5 w' w.heap.size (fun _ => True) v (readB d s) ∧ Below w.heap.size w w' := by
  obtain ⟨bn, bs, vc, cs, Sc, hc, hp⟩ := h.row
  have hgl := h.glt
  obtain ⟨_, c1, _, _, _, _, c6⟩ := cells7 hc
  obtain ⟨vs, hown, h2⟩ := hp.now
  obtain ⟨hq, A, cc, hgo, hcc, hC⟩ := look_row h2 s
  have hlk := hown.look_ok hs
  rw [hgo, hq] at hlk
  have hle : ((look d.now s).getD []).length ≤ 65536000000 := by
    have h1 := look_used (fs := d.now) (s := s)
    have h2 := used_le d.now hsm.each.1
    have h3 := hsm.now
    omega
  unfold readE readB
  obtain ⟨q, hq'⟩ : ∃ q, q = (look d.now s).isSome := ⟨_, rfl⟩
  obtain ⟨t, ht⟩ : ∃ t, t = (look d.now s).getD [] := ⟨_, rfl⟩
  have hqt : q = false → t = [] := fun e => by
    rw [hq'] at e
    rw [ht]
    cases hl : look d.now s with
    | none => rfl
    | some x => rw [hl] at e; cases e
  rw [← hq', ← ht] at hlk ⊢
  rw [← ht] at hcc hC hle
  obtain ⟨dn, hdn⟩ : ∃ dn, dn = d.down := ⟨_, rfl⟩
  rw [← hdn] at c6 ⊢
  have HQ := Lib.hid hqt
  have HC := Lib.hid (clone_any A cc t w hC hcc (by omega))
  clear h hc hp hown h2 hq hgo hq' ht hdn hqt hC hsm
  cases dn with
  | true =>
    go_enter Try.func15, Try.ntmps15
    go_wp2_with fail
    go_ret2
    exact ⟨_, rfl, Kd.R_nil _ _ _ _ _, Below.refl _ _⟩
  | false =>
    cases q with
    | false =>
      have HT := Lib.hid (HQ.out rfl)
      clear HQ
      go_enter Try.func15, Try.ntmps15
      go_wp2_with fail
      go_ret2
      refine ⟨_, rfl, ?_, Below.refl _ _⟩
      rw [HT.out]
      exact Kd.R_nil _ _ _ _ _
    | true =>
      go_enter Try.func15, Try.ntmps15
      go_wp2_with fail
      refine HC.out.mono ?_
      rintro r w' ⟨v, rfl, hR, hB⟩
      have HR := Lib.hid (And.intro hR hB)
      clear hR hB
      go_wp2_with fail
      go_ret2
      exact ⟨_, rfl, HR.out.1, HR.out.2⟩
def newD (room : Int) : D := ⟨max room 0, [], [], [], 0, -1, false⟩
set_option maxRecDepth 100000 in
set_option maxHeartbeats 2000000 in
theorem new_any (room : Int) (w : World) :
    Calls Try.prog 11 #[.int .i64 room] w fun r w' => ∃ g, r = .returned (pt g) ∧ DiskAt w' w.heap.size g (fun k => w.heap.size ≤ k ∧ k < w'.heap.size) (newD room) ∧ Below w.heap.size w w' := by
  obtain ⟨M, hM⟩ : ∃ M, M = max room 0 := ⟨_, rfl⟩
  have hmx := max_is room 0 M hM.symm
  have hmm := @run_makeMap Try.prog
  unfold newD
  rw [← hM]
  clear hM
  go_enter Try.func11, Try.ntmps11
  go_wp2_with fail
  go_ret
  have hB : Below w.heap.size w (((w.alloc (.map #[] 0)).alloc (.map #[] 0)).alloc (.cells #[.int .i64 M, .map (some w.heap.size), .map (some (w.heap.size + 1)), .slice none 0 0, .int .i64 0, .int .i64 (-1), .bool false] tD)) := (((Below.refl _ _).alloc (Nat.le_refl _) _).alloc (by simp) _).alloc (by simp; omega) _
  refine ⟨_, rfl, ⟨⟨w.heap.size, w.heap.size + 1, .slice none 0 0, [], fun _ => False, ?_, ⟨?_, ?_, ?_, trivial, fun k hk => hk.elim, ?_, ?_, ?_⟩⟩, ?_, ?_⟩, hB⟩
  · have := heap_alloc_new ((w.alloc (.map #[] 0)).alloc (.map #[] 0)) (.cells #[.int .i64 M, .map (some w.heap.size), .map (some (w.heap.size + 1)), .slice none 0 0, .int .i64 0, .int .i64 (-1), .bool false] tD)
    simpa [DiskCells] using this
  · have h0 : MapAt (w.alloc (.map #[] 0)) (fun k => w.heap.size ≤ k ∧ k < ((((w.alloc (.map #[] 0)).alloc (.map #[] 0)).alloc (.cells #[.int .i64 M, .map (some w.heap.size), .map (some (w.heap.size + 1)), .slice none 0 0, .int .i64 0, .int .i64 (-1), .bool false] tD))).heap.size) w.heap.size [] := ⟨[], own_made w, trivial⟩
    exact h0.below (((Below.refl _ _).alloc (Nat.le_refl _) _).alloc (by simp) _)
  · have h0 : MapAt ((w.alloc (.map #[] 0)).alloc (.map #[] 0)) (fun k => w.heap.size ≤ k ∧ k < ((((w.alloc (.map #[] 0)).alloc (.map #[] 0)).alloc (.cells #[.int .i64 M, .map (some w.heap.size), .map (some (w.heap.size + 1)), .slice none 0 0, .int .i64 0, .int .i64 (-1), .bool false] tD))).heap.size) (w.heap.size + 1) [] := ⟨[], by have := own_made (w.alloc (.map #[] 0)); simpa using this, trivial⟩
    exact h0.below ((Below.refl _ _).alloc (Nat.le_refl _) _)
  · exact Kd.R_nil _ _ _ _ _
  · simp <;> omega
  · simp <;> omega
  · omega
  · exact fun k hk => ⟨hk.2, hk.1⟩
  · simp <;> omega
end Go.Proofs.Ytbfpmlblnfablaa
