/- What is wrong with an act. -/
import Derived.Test.YtnjdighpdcabcaaDiskU
import Derived.Test.YtnjdighpdcabcaaDiskN
set_option linter.unusedVariables false
set_option linter.unusedSimpArgs false
namespace Go.Proofs.Ytnjdighpdcabcaa
open Go.RowKit Go.Proofs.YtnjdighpdcabcaaW.PrintWords Go.Proofs.YtnjdighpdcabcaaW.PrintLast Go.Proofs.YtnjdighpdcabcaaW.PrintMore

theorem used_any (w : World) (base g : Nat) (S : Nat → Prop) (d : D) (h : DiskAt w base g S d) (hs : Small d) :
    Calls Try.prog 32 #[pt g] w fun r w' => r = .returned (.int .i64 (used d.now : Int)) ∧ Below w.heap.size w w' := by
  obtain ⟨bn, bs, vc, cs, Sc, hc, hp⟩ := h.row
  obtain ⟨vs, hown, h2⟩ := hp.now
  have := used_le d.now hs.each.1
  have := hs.now
  exact used_raw w g bn vs _ (used_eq h2) (by omega) hown (cells7 hc).2.1
theorem look_row {w : World} {S : Nat → Prop} {vs : List (ByteArray × Value)} {fs : Files} (h2 : All2 (FileRow w S) vs fs) (s : ByteArray) :
    (look vs s).isSome = (look fs s).isSome ∧ ∃ A c, (look vs s).getD (.slice none 0 0) = .slice A ((look fs s).getD []).length c ∧ ((look fs s).getD []).length ≤ c ∧ Kd.C (Kd.int .u8) w A ((look fs s).getD []).length ((look fs s).getD []) := by
  rcases All2.look fileRow_name s h2 with ⟨h, h'⟩ | ⟨v, t, h, h', hr⟩
  · rw [h, h']
    exact ⟨rfl, none, 0, rfl, Nat.le_refl _, Kd.C_nil _ _⟩
  · rw [h, h']
    obtain ⟨A, c, e, hc, hC⟩ := hr.2.slice
    exact ⟨rfl, A, c, e, hc, hC⟩
theorem look_used {fs : Files} {s : ByteArray} : ((look fs s).getD []).length ≤ used fs := by
  cases h : look fs s with
  | none => exact Nat.zero_le _
  | some t =>
    have hm := look_mem h
    show t.length ≤ _
    clear h
    induction fs with
    | nil => simp at hm
    | cons f fs ih =>
      unfold used at ih ⊢
      rw [List.map_cons, List.sum_cons]
      rcases List.mem_cons.1 hm with e | hm
      · rw [← e]; exact Nat.le_add_right _ _
      · have := ih hm; omega
set_option maxRecDepth 100000 in
set_option maxHeartbeats 2000000 in
theorem none_raw (w : World) (g b : Nat) (vs : List (ByteArray × Value)) (s : ByteArray) (hs : s.size ≤ maxLen) (q : Bool) (hq : (look vs s).isSome = q) (hown : OwnM w b vs) (c1 : w.cell? ⟨g, 1, none⟩ = some (.map (some b))) :
    Calls Try.prog 46 #[pt g, .string s] w fun r w' => r = .returned (.int .i64 (if q = true then 0 else 12)) ∧ Below w.heap.size w w' := by
  have hlk := hown.look_ok hs
  rw [hq] at hlk
  clear hown hq
  cases q with
  | true =>
    go_enter Try.func46, Try.ntmps46
    go_wp2_with fail
    go_ret
    exact ⟨rfl, Below.refl _ _⟩
  | false =>
    go_enter Try.func46, Try.ntmps46
    go_wp2_with fail
    go_ret
    exact ⟨rfl, Below.refl _ _⟩
def noneE (d : D) (s : ByteArray) : Int := if (look d.now s).isSome = true then 0 else 12
theorem none_any (w : World) (base g : Nat) (S : Nat → Prop) (d : D) (h : DiskAt w base g S d) (s : ByteArray) (hs : s.size ≤ maxLen) :
    Calls Try.prog 46 #[pt g, .string s] w fun r w' => r = .returned (.int .i64 (noneE d s)) ∧ Below w.heap.size w w' := by
  obtain ⟨bn, bs, vc, cs, Sc, hc, hp⟩ := h.row
  obtain ⟨vs, hown, h2⟩ := hp.now
  exact none_raw w g bn vs s hs _ (look_row h2 s).1 hown (cells7 hc).2.1
def renE (d : D) (s t : ByteArray) : Int := if rightN t = true then noneE d s else 1
set_option maxRecDepth 100000 in
theorem wrong_rename (w : World) (base g : Nat) (S : Nat → Prop) (d : D) (h : DiskAt w base g S d) (s t : ByteArray) (hs : s.size ≤ maxLen) (b0 b1 b2 : Nat) (c0 : w.cell? ⟨b0, 0, none⟩ = some (pt g)) (c1 : w.cell? ⟨b1, 0, none⟩ = some (.string s)) (c2 : w.cell? ⟨b2, 0, none⟩ = some (.string t)) :
    Calls Try.prog 45 #[pt b2, pt b0, pt b1] w fun r w' => r = .returned (.int .i64 (renE d s t)) ∧ Below w.heap.size w w' := by
  have HH := Lib.hid h
  have hr := right_any t w
  have l0 := World.block_lt_of_cell? w _ c0
  have l1 := World.block_lt_of_cell? w _ c1
  have HC := Lib.hid (And.intro c0 c1)
  have HR := Lib.hid hr
  have HE := Lib.hid (show renE d s t = if rightN t = true then noneE d s else 1 from rfl)
  obtain ⟨e, he⟩ : ∃ e, e = renE d s t := ⟨_, rfl⟩
  rw [← he] at HE ⊢
  obtain ⟨e2, he2⟩ : ∃ e, e = noneE d s := ⟨_, rfl⟩
  have HN := Lib.hid he2
  rw [← he2] at HE
  cases hq : rightN t with
  | true =>
    rw [hq] at HR HE
    obtain rfl : e = e2 := HE.out
    clear h he he2 hq c0 c1 HE hr
    go_enter Try.func45, Try.ntmps45
    go_wp2_with fail
    refine HR.out.mono ?_
    rintro r w1 ⟨rfl, hB⟩
    have HB := Lib.hid hB
    have c0' := (hB.cell l0).trans HC.out.1
    have c1' := (hB.cell l1).trans HC.out.2
    have HD := Lib.hid (HH.out.below hB)
    clear hB
    go_wp2_with fail
    have hn := none_any w1 base g S d HD.out s hs
    rw [← HN.out] at hn
    refine hn.mono ?_
    rintro r w2 ⟨rfl, hB2⟩
    have HB2 := Lib.hid hB2
    clear hB2 hn c0' c1'
    go_wp2_with fail
    go_ret
    exact ⟨rfl, below_then HB.out HB.out.size HB2.out⟩
  | false =>
    rw [hq] at HR HE
    obtain rfl : e = 1 := HE.out
    clear h he he2 hq c0 c1 HE HN hr
    go_enter Try.func45, Try.ntmps45
    go_wp2_with fail
    refine HR.out.mono ?_
    rintro r w1 ⟨rfl, hB⟩
    have HB := Lib.hid hB
    clear hB
    go_wp2_with fail
    go_ret
    exact ⟨rfl, HB.out⟩
set_option maxRecDepth 100000 in
theorem wrong_sync (w : World) : Calls Try.prog 44 #[] w fun r w' => r = .returned (.int .i64 0) ∧ Below w.heap.size w w' := by
  go_enter Try.func44, Try.ntmps44
  go_wp2_with fail
  go_ret
  exact ⟨rfl, Below.refl _ _⟩
end Go.Proofs.Ytnjdighpdcabcaa
