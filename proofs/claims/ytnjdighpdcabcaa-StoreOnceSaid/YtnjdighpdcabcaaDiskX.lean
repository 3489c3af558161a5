/- What is wrong with a write. -/
import Derived.Test.YtnjdighpdcabcaaDiskW
import Derived.Test.YtnjdighpdcabcaaRegion
set_option linter.unusedVariables false
set_option linter.unusedSimpArgs false
namespace Go.Proofs.Ytnjdighpdcabcaa
open Go.RowKit Go.Proofs.YtnjdighpdcabcaaW.PrintWords Go.Proofs.YtnjdighpdcabcaaW.PrintLast Go.Proofs.YtnjdighpdcabcaaW.PrintMore

def oldLen (d : D) (s : ByteArray) : Nat := ((look d.now s).getD []).length
/-- What is wrong with a write of n bytes to s. -/
def wrE (d : D) (s : ByteArray) (n : Nat) : Int :=
  if rightN s = true then (if 65536 < n ∨ ((look d.now s).isSome = false ∧ d.now.length = 512) then 2 else if d.room - used d.now + oldLen d s < n then 11 else 0) else 1
set_option maxRecDepth 100000 in
set_option maxHeartbeats 4000000 in
theorem wrong_write (w : World) (base g : Nat) (S : Nat → Prop) (d : D) (h : DiskAt w base g S d) (hsm : Small d) (s : ByteArray) (hs : s.size ≤ maxLen) (A : Option Addr) (n c : Nat) (b0 b1 b2 : Nat) (c0 : w.cell? ⟨b0, 0, none⟩ = some (pt g)) (c1 : w.cell? ⟨b1, 0, none⟩ = some (.string s)) (c2 : w.cell? ⟨b2, 0, none⟩ = some (.slice A n c)) (hn : n ≤ 140737488351232) :
    Calls Try.prog 30 #[pt b0, pt b1, pt b2] w fun r w' => r = .returned (.int .i64 (wrE d s n)) ∧ Below w.heap.size w w' := by
  obtain ⟨bn, bs, vc, cs, Sc, hc, hp⟩ := h.row
  obtain ⟨vs, hown, h2⟩ := hp.now
  obtain ⟨hq, Ao, co, hgo, hco, _⟩ := look_row h2 s
  have hlk := hown.look_ok hs
  rw [hgo, hq] at hlk
  have hlk' : (Instr.lookup 50 (.map (some bn)) (.string s) true).run Try.prog w.drew = .ok (.tuple #[.slice Ao (oldLen d s) co, .bool (look d.now s).isSome]) w.drew := by
    have h3 := OwnM.look_ok (w := w.drew) (own_move (w' := w.drew) hown rfl) hs
    rw [hgo, hq] at h3
    exact h3
  have hgl := h.glt
  obtain ⟨d0, d1, _⟩ := cells7 hc
  have l0 := World.block_lt_of_cell? w _ c0
  have l1 := World.block_lt_of_cell? w _ c1
  have l2 := World.block_lt_of_cell? w _ c2
  have hro := hsm.room
  have hul := used_le d.now hsm.each.1
  have hnl := hsm.now
  have hol : oldLen d s ≤ used d.now := look_used
  have hlen : vs.length = d.now.length := h2.length
  obtain ⟨N, hN⟩ : ∃ N, N = d.now.length := ⟨_, rfl⟩
  obtain ⟨u, hu⟩ : ∃ u, u = used d.now := ⟨_, rfl⟩
  obtain ⟨ol, hol'⟩ : ∃ ol, ol = oldLen d s := ⟨_, rfl⟩
  obtain ⟨q, hq'⟩ : ∃ q, q = (look d.now s).isSome := ⟨_, rfl⟩
  obtain ⟨ro, hr'⟩ : ∃ ro, ro = d.room := ⟨_, rfl⟩
  have hE : wrE d s n = if rightN s = true then (if 65536 < n ∨ (q = false ∧ N = 512) then 2 else if ro - u + ol < n then 11 else 0) else 1 := by rw [hN, hu, hol', hq', hr']; rfl
  rw [hE]
  rw [← hol', ← hq'] at hlk'
  rw [← hN, ← hu] at hul
  rw [← hN] at hnl hlen
  rw [← hol', ← hu] at hol
  rw [← hr'] at hro d0
  have hub : (u : Int) ≤ 65536000000000 := by omega
  obtain ⟨hr0, hr1⟩ := hro
  have HH := Lib.hid h
  have HOWN := Lib.hid hown
  have HLEN := Lib.hid hlen
  have HU := Lib.hid hu
  have HSM := Lib.hid hsm
  have HCC := Lib.hid (And.intro c0 (And.intro c1 (And.intro c2 (And.intro d0 d1))))
  have HR := Lib.hid (right_any s)
  obtain ⟨rq, hrq⟩ : ∃ rq, rq = rightN s := ⟨_, rfl⟩
  rw [← hrq] at HR ⊢
  clear h hsm hown h2 hq hgo hco hlk hp hc hN hlen hu hol' hq' hr' hE hul hrq
  go_enter Try.func30, Try.ntmps30
  go_upto_region 1 with (fail)
  refine start_ (S := fun w' => w'.cell? ⟨b0, 0, none⟩ = some (pt g) ∧ w'.cell? ⟨b1, 0, none⟩ = some (.string s) ∧ w'.cell? ⟨g, 1, none⟩ = some (.map (some bn)) ∧ (Instr.lookup 50 (.map (some bn)) (.string s) true).run Try.prog w' = .ok (.tuple #[.slice Ao ol co, .bool q]) w') (ds := [9, 10]) (n := 11) #[false, false, false, false, false, false, false, false, false, false, false] rfl rfl rfl ?hS0 (fun hHeld => ?hrun)
  case hS0 => exact ⟨c0, c1, d1, hlk'⟩
  case hrun =>
    refine take_ (i := 0) (N := some 7) (v := ?_) (a' := ?_) #[true, false, false, false, false, false, false, false, false, false, false] rfl rfl (by kernel_rfl) (fun _ _ _ h => h) (Or.inl ⟨by rfl, ?_⟩) hHeld ?_ ?_
    rotate_left
    · rintro w' ⟨ha, hb, hcc, hl⟩
      go_simp
      first | done | with_reducible rfl
    rotate_left
    · simp only [Act.put, List.setIfInBounds_toArray, List.set_cons_zero, List.set_cons_succ, i64_w, i32_w]
      rfl
    refine pure_ (i := 1) (N := some 8) (v := ?_) (a' := ?_) #[true, true, false, false, false, false, false, false, false, false, false] rfl rfl (by kernel_rfl) (fun _ _ _ h => h) (Or.inl ⟨by rfl, ?_⟩) ?_ ?_
    rotate_left
    · intro w'
      go_simp
      first | done | with_reducible rfl
    rotate_left
    · simp only [Act.put, List.setIfInBounds_toArray, List.set_cons_zero, List.set_cons_succ, i64_w, i32_w]
      rfl
    refine pure_ (i := 2) (N := some 9) (v := ?_) (a' := ?_) #[true, true, true, false, false, false, false, false, false, false, false] rfl rfl (by kernel_rfl) (fun _ _ _ h => h) (Or.inl ⟨by rfl, ?_⟩) ?_ ?_
    rotate_left
    · intro w'
      go_simp
      first | done | with_reducible rfl
    rotate_left
    · simp only [Act.put, List.setIfInBounds_toArray, List.set_cons_zero, List.set_cons_succ, i64_w, i32_w]
      rfl
    refine take_ (i := 3) (N := some 10) (v := ?_) (a' := ?_) #[true, true, true, true, false, false, false, false, false, false, false] rfl rfl (by kernel_rfl) (fun _ _ _ h => h) (Or.inl ⟨by rfl, ?_⟩) hHeld ?_ ?_
    rotate_left
    · rintro w' ⟨ha, hb, hcc, hl⟩
      go_simp
      first | done | with_reducible rfl
    rotate_left
    · simp only [Act.put, List.setIfInBounds_toArray, List.set_cons_zero, List.set_cons_succ, i64_w, i32_w]
      rfl
    refine take_ (i := 4) (N := some 11) (v := ?_) (a' := ?_) #[true, true, true, true, true, false, false, false, false, false, false] rfl rfl (by kernel_rfl) (fun _ _ _ h => h) (Or.inl ⟨by rfl, ?_⟩) hHeld ?_ ?_
    rotate_left
    · rintro w' ⟨ha, hb, hcc, hl⟩
      go_simp
      first | done | with_reducible rfl
    rotate_left
    · simp only [Act.put, List.setIfInBounds_toArray, List.set_cons_zero, List.set_cons_succ, i64_w, i32_w]
      rfl
    refine take_ (i := 5) (N := some 12) (v := ?_) (a' := ?_) #[true, true, true, true, true, true, false, false, false, false, false] rfl rfl (by kernel_rfl) (fun _ _ _ h => h) (Or.inl ⟨by rfl, ?_⟩) hHeld ?_ ?_
    rotate_left
    · rintro w' ⟨ha, hb, hcc, hl⟩
      go_simp
      first | done | with_reducible rfl
    rotate_left
    · simp only [Act.put, List.setIfInBounds_toArray, List.set_cons_zero, List.set_cons_succ, i64_w, i32_w]
      rfl
    refine pure_ (i := 6) (N := some 6) (v := ?_) (a' := ?_) #[true, true, true, true, true, true, true, false, false, false, false] rfl rfl (by kernel_rfl) (fun _ _ _ h => h) (Or.inl ⟨by rfl, ?_⟩) ?_ ?_
    rotate_left
    · intro w'
      go_simp
      first | done | with_reducible rfl
    rotate_left
    · simp only [Act.put, List.setIfInBounds_toArray, List.set_cons_zero, List.set_cons_succ, i64_w, i32_w]
      rfl
    refine pure_ (i := 7) (N := some 13) (v := ?_) (a' := ?_) #[true, true, true, true, true, true, true, true, false, false, false] rfl rfl (by kernel_rfl) (fun _ _ _ h => h) (Or.inl ⟨by rfl, ?_⟩) ?_ ?_
    rotate_left
    · intro w'
      go_simp
      first | done | with_reducible rfl
    rotate_left
    · simp only [Act.put, List.setIfInBounds_toArray, List.set_cons_zero, List.set_cons_succ, i64_w, i32_w]
      rfl
    refine pure_ (i := 8) (N := some 14) (v := ?_) (a' := ?_) #[true, true, true, true, true, true, true, true, true, false, false] rfl rfl (by kernel_rfl) (fun _ _ _ h => h) (Or.inl ⟨by rfl, ?_⟩) ?_ ?_
    rotate_left
    · intro w'
      go_simp
      first | done | with_reducible rfl
    rotate_left
    · simp only [Act.put, List.setIfInBounds_toArray, List.set_cons_zero, List.set_cons_succ, i64_w, i32_w]
      rfl
    refine tail_list 9 (t := [9, 10]) (fuel := 0) rfl rfl rfl (by kernel_rfl) (by decide) ?_
    clear c0 c1 c2 d0 d1 hlk' hHeld
    have c0 := HCC.out.1
    have c1 := HCC.out.2.1
    have c2 := HCC.out.2.2.1
    go_wp2_with fail
    refine (HR.out w.drew).mono ?_
    rintro r w1 ⟨rfl, hB⟩
    have hB0 : Below w.heap.size w w1 := ((Below.refl _ _).drew).trans hB
    have e0 := (hB.cell (p := ⟨b0, 0, none⟩) l0).trans c0
    have e1 := (hB.cell (p := ⟨b1, 0, none⟩) l1).trans c1
    have e2 := (hB.cell (p := ⟨b2, 0, none⟩) l2).trans c2
    have eg0 := (hB.cell (p := ⟨g, 0, none⟩) hgl).trans HCC.out.2.2.2.1
    have eg1 := (hB.cell (p := ⟨g, 1, none⟩) hgl).trans HCC.out.2.2.2.2
    have k0 := Nat.lt_of_lt_of_le l0 hB.size
    have k2 := Nat.lt_of_lt_of_le l2 hB.size
    have kg := Nat.lt_of_lt_of_le hgl hB.size
    have hln : ∀ ty, (Builtin.len_ #[50] ty #[.map (some bn)]).run Try.prog w1 = .ok (.int .i64 (N : Int)) w1 := fun ty => by
      have := OwnM.len (own_move HOWN.out (hB.block bn (by have := OwnM.lt HOWN.out; exact this))) ty
      rw [HLEN.out] at this
      exact this
    have HB := Lib.hid hB0
    clear hB hB0 c0 c1 c2 HR
    cases rq with
    | false =>
      go_wp2_with fail
      go_ret
      exact ⟨rfl, HB.out⟩
    | true =>
      have HW1 := Lib.hid (show wrap64 (ro - (u : Int)) = ro - u by unfold wrap64; omega)
      have HW2 := Lib.hid (show wrap64 (ro - (u : Int) + ol) = ro - u + ol by unfold wrap64; omega)
      by_cases hbig : 65536 < n
      · have hb' : (65536 : Int) < (n : Int) := by omega
        go_wp2_with fail
        go_ret
        exact ⟨by simp [hbig], HB.out⟩
      have hb' : ¬ (65536 : Int) < (n : Int) := by omega
      cases q with
      | true =>
        simp only [hbig, false_or, Bool.true_eq_false, false_and, if_false, if_true]
        by_cases hfu : ro - u + ol < n
        · go_upto_region 7 with (fail)
          refine start_ (S := fun w' => Below w.heap.size w w' ∧ w'.cell? ⟨b0, 0, none⟩ = some (pt g) ∧ w'.cell? ⟨b2, 0, none⟩ = some (.slice A n c) ∧ w'.cell? ⟨g, 0, none⟩ = some (.int .i64 ro)) (ds := [12, 13]) (n := 14) #[false, false, false, false, false, false, false, false, false, false, false, false, false, false] rfl rfl rfl ?hS0 (fun hHeld => ?hrun)
          case hS0 => exact ⟨HB.out.drew, e0, e2, eg0⟩
          case hrun =>
            refine take_ (i := 0) (N := some 34) (v := ?_) (a' := ?_) #[true, false, false, false, false, false, false, false, false, false, false, false, false, false] rfl rfl (by kernel_rfl) (fun _ _ _ h => h) (Or.inl ⟨by rfl, ?_⟩) hHeld ?_ ?_
            rotate_left
            · rintro w' ⟨hbe, ha, hb, hcc⟩
              go_simp
              first | done | with_reducible rfl
            rotate_left
            · simp only [Act.put, List.setIfInBounds_toArray, List.set_cons_zero, List.set_cons_succ, i64_w, i32_w]
              rfl
            refine pure_ (i := 1) (N := some 35) (v := ?_) (a' := ?_) #[true, true, false, false, false, false, false, false, false, false, false, false, false, false] rfl rfl (by kernel_rfl) (fun _ _ _ h => h) (Or.inl ⟨by rfl, ?_⟩) ?_ ?_
            rotate_left
            · intro w'
              go_simp
              first | done | with_reducible rfl
            rotate_left
            · simp only [Act.put, List.setIfInBounds_toArray, List.set_cons_zero, List.set_cons_succ, i64_w, i32_w]
              rfl
            refine take_ (i := 2) (N := some 36) (v := ?_) (a' := ?_) #[true, true, true, false, false, false, false, false, false, false, false, false, false, false] rfl rfl (by kernel_rfl) (fun _ _ _ h => h) (Or.inl ⟨by rfl, ?_⟩) hHeld ?_ ?_
            rotate_left
            · rintro w' ⟨hbe, ha, hb, hcc⟩
              go_simp
              first | done | with_reducible rfl
            rotate_left
            · simp only [Act.put, List.setIfInBounds_toArray, List.set_cons_zero, List.set_cons_succ, i64_w, i32_w]
              rfl
            refine pure_ (i := 3) (N := some 37) (v := ?_) (a' := ?_) #[true, true, true, true, false, false, false, false, false, false, false, false, false, false] rfl rfl (by kernel_rfl) (fun _ _ _ h => h) (Or.inl ⟨by rfl, ?_⟩) ?_ ?_
            rotate_left
            · intro w'
              go_simp
              first | done | with_reducible rfl
            rotate_left
            · simp only [Act.put, List.setIfInBounds_toArray, List.set_cons_zero, List.set_cons_succ, i64_w, i32_w]
              rfl
            refine pure_ (i := 4) (N := some 38) (v := ?_) (a' := ?_) #[true, true, true, true, true, false, false, false, false, false, false, false, false, false] rfl rfl (by kernel_rfl) (fun _ _ _ h => h) (Or.inl ⟨by rfl, ?_⟩) ?_ ?_
            rotate_left
            · intro w'
              go_simp
              first | done | with_reducible rfl
            rotate_left
            · simp only [Act.put, List.setIfInBounds_toArray, List.set_cons_zero, List.set_cons_succ, i64_w, i32_w]
              rfl
            refine take_ (i := 5) (N := some 39) (v := ?_) (a' := ?_) #[true, true, true, true, true, true, false, false, false, false, false, false, false, false] rfl rfl (by kernel_rfl) (fun _ _ _ h => h) (Or.inl ⟨by rfl, ?_⟩) hHeld ?_ ?_
            rotate_left
            · rintro w' ⟨hbe, ha, hb, hcc⟩
              go_simp
              first | done | with_reducible rfl
            rotate_left
            · simp only [Act.put, List.setIfInBounds_toArray, List.set_cons_zero, List.set_cons_succ, i64_w, i32_w]
              rfl
            refine take_ (i := 6) (N := some 40) (v := ?_) (a' := ?_) #[true, true, true, true, true, true, true, false, false, false, false, false, false, false] rfl rfl (by kernel_rfl) (fun _ _ _ h => h) (Or.inl ⟨by rfl, ?_⟩) hHeld ?_ ?_
            rotate_left
            · rintro w' ⟨hbe, ha, hb, hcc⟩
              go_simp
              first | done | with_reducible rfl
            rotate_left
            · simp only [Act.put, List.setIfInBounds_toArray, List.set_cons_zero, List.set_cons_succ, i64_w, i32_w]
              rfl
            refine pure_ (i := 9) (N := some 43) (v := ?_) (a' := ?_) #[true, true, true, true, true, true, true, false, false, true, false, false, false, false] rfl rfl (by kernel_rfl) (fun _ _ _ h => h) (Or.inl ⟨by rfl, ?_⟩) ?_ ?_
            rotate_left
            · intro w'
              go_simp
              first | done | with_reducible rfl
            rotate_left
            · simp only [Act.put, List.setIfInBounds_toArray, List.set_cons_zero, List.set_cons_succ, i64_w, i32_w]
              rfl
            refine pure_ (i := 10) (N := some 44) (v := ?_) (a' := ?_) #[true, true, true, true, true, true, true, false, false, true, true, false, false, false] rfl rfl (by kernel_rfl) (fun _ _ _ h => h) (Or.inl ⟨by rfl, ?_⟩) ?_ ?_
            rotate_left
            · intro w'
              go_simp
              first | done | with_reducible rfl
            rotate_left
            · simp only [Act.put, List.setIfInBounds_toArray, List.set_cons_zero, List.set_cons_succ, i64_w, i32_w]
              rfl
            refine one_ (i := 7) (N := some 41) #[true, true, true, true, true, true, true, true, false, true, true, false, false, false] rfl rfl (by kernel_rfl) (by decide) (fun K hK => ?_)
            refine goes_ Try.func32 (by kernel_rfl) rfl #[pt g] (by rfl) rfl rfl (by (try simp only [List.map_toArray, List.map_cons, List.map_nil]); first | done | rfl) ?_
            have hus := used_any w1.drew base g S d (HH.out.below HB.out.drew) HSM.out
            rw [← HU.out] at hus
            refine hus.mono ?_
            rintro r w9 ⟨rfl, hB9⟩
            have HB9 := Lib.hid (show Below w.heap.size w w9 from below_then HB.out HB.out.size (((Below.refl _ _).drew).trans hB9))
            refine ⟨_, rfl, ?_⟩
            refine hK.out _ _ ⟨HB9.out, (hB9.cell (p := ⟨b0, 0, none⟩) k0).trans e0, (hB9.cell (p := ⟨b2, 0, none⟩) k2).trans e2, (hB9.cell (p := ⟨g, 0, none⟩) kg).trans eg0⟩ (fun hHeld1 => ?_)
            clear hK K
            refine norm_ (a' := ?_) ?_ ?_
            rotate_left
            · show Act.put _ (some 41) _ = _
              simp only [Act.put, List.setIfInBounds_toArray, List.set_cons_zero, List.set_cons_succ, i64_w, i32_w]
              rfl
            refine pure_ (i := 8) (N := some 42) (v := ?_) (a' := ?_) #[true, true, true, true, true, true, true, true, true, true, true, false, false, false] rfl rfl (by kernel_rfl) (fun _ _ _ h => h) (Or.inl ⟨by rfl, ?_⟩) ?_ ?_
            rotate_left
            · intro w'
              go_simp
              with_reducible rfl
            rotate_left
            · simp only [Act.put, List.setIfInBounds_toArray, List.set_cons_zero, List.set_cons_succ, i64_w, i32_w]
              rfl
            refine pure_ (i := 11) (N := some 45) (v := ?_) (a' := ?_) #[true, true, true, true, true, true, true, true, true, true, true, true, false, false] rfl rfl (by kernel_rfl) (fun _ _ _ h => h) (Or.inl ⟨by rfl, ?_⟩) ?_ ?_
            rotate_left
            · intro w'
              go_simp
              with_reducible rfl
            rotate_left
            · simp only [Act.put, List.setIfInBounds_toArray, List.set_cons_zero, List.set_cons_succ, i64_w, i32_w]
              rfl
            refine tail_list 12 (t := [12, 13]) (fuel := 0) rfl rfl rfl (by kernel_rfl) (by decide) ?_
            clear hHeld hHeld1
            simp only [HW1.out, HW2.out]
            go_wp2_with fail
            go_ret
            exact ⟨rfl, HB9.out⟩
        · go_upto_region 7 with (fail)
          refine start_ (S := fun w' => Below w.heap.size w w' ∧ w'.cell? ⟨b0, 0, none⟩ = some (pt g) ∧ w'.cell? ⟨b2, 0, none⟩ = some (.slice A n c) ∧ w'.cell? ⟨g, 0, none⟩ = some (.int .i64 ro)) (ds := [12, 13]) (n := 14) #[false, false, false, false, false, false, false, false, false, false, false, false, false, false] rfl rfl rfl ?hS0 (fun hHeld => ?hrun)
          case hS0 => exact ⟨HB.out.drew, e0, e2, eg0⟩
          case hrun =>
            refine take_ (i := 0) (N := some 34) (v := ?_) (a' := ?_) #[true, false, false, false, false, false, false, false, false, false, false, false, false, false] rfl rfl (by kernel_rfl) (fun _ _ _ h => h) (Or.inl ⟨by rfl, ?_⟩) hHeld ?_ ?_
            rotate_left
            · rintro w' ⟨hbe, ha, hb, hcc⟩
              go_simp
              first | done | with_reducible rfl
            rotate_left
            · simp only [Act.put, List.setIfInBounds_toArray, List.set_cons_zero, List.set_cons_succ, i64_w, i32_w]
              rfl
            refine pure_ (i := 1) (N := some 35) (v := ?_) (a' := ?_) #[true, true, false, false, false, false, false, false, false, false, false, false, false, false] rfl rfl (by kernel_rfl) (fun _ _ _ h => h) (Or.inl ⟨by rfl, ?_⟩) ?_ ?_
            rotate_left
            · intro w'
              go_simp
              first | done | with_reducible rfl
            rotate_left
            · simp only [Act.put, List.setIfInBounds_toArray, List.set_cons_zero, List.set_cons_succ, i64_w, i32_w]
              rfl
            refine take_ (i := 2) (N := some 36) (v := ?_) (a' := ?_) #[true, true, true, false, false, false, false, false, false, false, false, false, false, false] rfl rfl (by kernel_rfl) (fun _ _ _ h => h) (Or.inl ⟨by rfl, ?_⟩) hHeld ?_ ?_
            rotate_left
            · rintro w' ⟨hbe, ha, hb, hcc⟩
              go_simp
              first | done | with_reducible rfl
            rotate_left
            · simp only [Act.put, List.setIfInBounds_toArray, List.set_cons_zero, List.set_cons_succ, i64_w, i32_w]
              rfl
            refine pure_ (i := 3) (N := some 37) (v := ?_) (a' := ?_) #[true, true, true, true, false, false, false, false, false, false, false, false, false, false] rfl rfl (by kernel_rfl) (fun _ _ _ h => h) (Or.inl ⟨by rfl, ?_⟩) ?_ ?_
            rotate_left
            · intro w'
              go_simp
              first | done | with_reducible rfl
            rotate_left
            · simp only [Act.put, List.setIfInBounds_toArray, List.set_cons_zero, List.set_cons_succ, i64_w, i32_w]
              rfl
            refine pure_ (i := 4) (N := some 38) (v := ?_) (a' := ?_) #[true, true, true, true, true, false, false, false, false, false, false, false, false, false] rfl rfl (by kernel_rfl) (fun _ _ _ h => h) (Or.inl ⟨by rfl, ?_⟩) ?_ ?_
            rotate_left
            · intro w'
              go_simp
              first | done | with_reducible rfl
            rotate_left
            · simp only [Act.put, List.setIfInBounds_toArray, List.set_cons_zero, List.set_cons_succ, i64_w, i32_w]
              rfl
            refine take_ (i := 5) (N := some 39) (v := ?_) (a' := ?_) #[true, true, true, true, true, true, false, false, false, false, false, false, false, false] rfl rfl (by kernel_rfl) (fun _ _ _ h => h) (Or.inl ⟨by rfl, ?_⟩) hHeld ?_ ?_
            rotate_left
            · rintro w' ⟨hbe, ha, hb, hcc⟩
              go_simp
              first | done | with_reducible rfl
            rotate_left
            · simp only [Act.put, List.setIfInBounds_toArray, List.set_cons_zero, List.set_cons_succ, i64_w, i32_w]
              rfl
            refine take_ (i := 6) (N := some 40) (v := ?_) (a' := ?_) #[true, true, true, true, true, true, true, false, false, false, false, false, false, false] rfl rfl (by kernel_rfl) (fun _ _ _ h => h) (Or.inl ⟨by rfl, ?_⟩) hHeld ?_ ?_
            rotate_left
            · rintro w' ⟨hbe, ha, hb, hcc⟩
              go_simp
              first | done | with_reducible rfl
            rotate_left
            · simp only [Act.put, List.setIfInBounds_toArray, List.set_cons_zero, List.set_cons_succ, i64_w, i32_w]
              rfl
            refine pure_ (i := 9) (N := some 43) (v := ?_) (a' := ?_) #[true, true, true, true, true, true, true, false, false, true, false, false, false, false] rfl rfl (by kernel_rfl) (fun _ _ _ h => h) (Or.inl ⟨by rfl, ?_⟩) ?_ ?_
            rotate_left
            · intro w'
              go_simp
              first | done | with_reducible rfl
            rotate_left
            · simp only [Act.put, List.setIfInBounds_toArray, List.set_cons_zero, List.set_cons_succ, i64_w, i32_w]
              rfl
            refine pure_ (i := 10) (N := some 44) (v := ?_) (a' := ?_) #[true, true, true, true, true, true, true, false, false, true, true, false, false, false] rfl rfl (by kernel_rfl) (fun _ _ _ h => h) (Or.inl ⟨by rfl, ?_⟩) ?_ ?_
            rotate_left
            · intro w'
              go_simp
              first | done | with_reducible rfl
            rotate_left
            · simp only [Act.put, List.setIfInBounds_toArray, List.set_cons_zero, List.set_cons_succ, i64_w, i32_w]
              rfl
            refine one_ (i := 7) (N := some 41) #[true, true, true, true, true, true, true, true, false, true, true, false, false, false] rfl rfl (by kernel_rfl) (by decide) (fun K hK => ?_)
            refine goes_ Try.func32 (by kernel_rfl) rfl #[pt g] (by rfl) rfl rfl (by (try simp only [List.map_toArray, List.map_cons, List.map_nil]); first | done | rfl) ?_
            have hus := used_any w1.drew base g S d (HH.out.below HB.out.drew) HSM.out
            rw [← HU.out] at hus
            refine hus.mono ?_
            rintro r w9 ⟨rfl, hB9⟩
            have HB9 := Lib.hid (show Below w.heap.size w w9 from below_then HB.out HB.out.size (((Below.refl _ _).drew).trans hB9))
            refine ⟨_, rfl, ?_⟩
            refine hK.out _ _ ⟨HB9.out, (hB9.cell (p := ⟨b0, 0, none⟩) k0).trans e0, (hB9.cell (p := ⟨b2, 0, none⟩) k2).trans e2, (hB9.cell (p := ⟨g, 0, none⟩) kg).trans eg0⟩ (fun hHeld1 => ?_)
            clear hK K
            refine norm_ (a' := ?_) ?_ ?_
            rotate_left
            · show Act.put _ (some 41) _ = _
              simp only [Act.put, List.setIfInBounds_toArray, List.set_cons_zero, List.set_cons_succ, i64_w, i32_w]
              rfl
            refine pure_ (i := 8) (N := some 42) (v := ?_) (a' := ?_) #[true, true, true, true, true, true, true, true, true, true, true, false, false, false] rfl rfl (by kernel_rfl) (fun _ _ _ h => h) (Or.inl ⟨by rfl, ?_⟩) ?_ ?_
            rotate_left
            · intro w'
              go_simp
              with_reducible rfl
            rotate_left
            · simp only [Act.put, List.setIfInBounds_toArray, List.set_cons_zero, List.set_cons_succ, i64_w, i32_w]
              rfl
            refine pure_ (i := 11) (N := some 45) (v := ?_) (a' := ?_) #[true, true, true, true, true, true, true, true, true, true, true, true, false, false] rfl rfl (by kernel_rfl) (fun _ _ _ h => h) (Or.inl ⟨by rfl, ?_⟩) ?_ ?_
            rotate_left
            · intro w'
              go_simp
              with_reducible rfl
            rotate_left
            · simp only [Act.put, List.setIfInBounds_toArray, List.set_cons_zero, List.set_cons_succ, i64_w, i32_w]
              rfl
            refine tail_list 12 (t := [12, 13]) (fuel := 0) rfl rfl rfl (by kernel_rfl) (by decide) ?_
            clear hHeld hHeld1
            simp only [HW1.out, HW2.out]
            go_wp2_with fail
            go_ret
            exact ⟨rfl, HB9.out⟩
      | false =>
        by_cases h5 : N = 512
        · subst h5
          go_wp2_with fail
          go_ret
          exact ⟨by simp, HB.out⟩
        have h5' : ((N : Int) == 512) = false := by rw [beq_eq_false_iff_ne]; omega
        simp only [hbig, false_or, h5, and_false, if_false, if_true]
        have H5 := Lib.hid h5
        clear h5
        by_cases hfu : ro - u + ol < n
        · go_upto_region 7 with (fail)
          refine start_ (S := fun w' => Below w.heap.size w w' ∧ w'.cell? ⟨b0, 0, none⟩ = some (pt g) ∧ w'.cell? ⟨b2, 0, none⟩ = some (.slice A n c) ∧ w'.cell? ⟨g, 0, none⟩ = some (.int .i64 ro)) (ds := [12, 13]) (n := 14) #[false, false, false, false, false, false, false, false, false, false, false, false, false, false] rfl rfl rfl ?hS0 (fun hHeld => ?hrun)
          case hS0 => exact ⟨HB.out.drew, e0, e2, eg0⟩
          case hrun =>
            refine take_ (i := 0) (N := some 34) (v := ?_) (a' := ?_) #[true, false, false, false, false, false, false, false, false, false, false, false, false, false] rfl rfl (by kernel_rfl) (fun _ _ _ h => h) (Or.inl ⟨by rfl, ?_⟩) hHeld ?_ ?_
            rotate_left
            · rintro w' ⟨hbe, ha, hb, hcc⟩
              go_simp
              first | done | with_reducible rfl
            rotate_left
            · simp only [Act.put, List.setIfInBounds_toArray, List.set_cons_zero, List.set_cons_succ, i64_w, i32_w]
              rfl
            refine pure_ (i := 1) (N := some 35) (v := ?_) (a' := ?_) #[true, true, false, false, false, false, false, false, false, false, false, false, false, false] rfl rfl (by kernel_rfl) (fun _ _ _ h => h) (Or.inl ⟨by rfl, ?_⟩) ?_ ?_
            rotate_left
            · intro w'
              go_simp
              first | done | with_reducible rfl
            rotate_left
            · simp only [Act.put, List.setIfInBounds_toArray, List.set_cons_zero, List.set_cons_succ, i64_w, i32_w]
              rfl
            refine take_ (i := 2) (N := some 36) (v := ?_) (a' := ?_) #[true, true, true, false, false, false, false, false, false, false, false, false, false, false] rfl rfl (by kernel_rfl) (fun _ _ _ h => h) (Or.inl ⟨by rfl, ?_⟩) hHeld ?_ ?_
            rotate_left
            · rintro w' ⟨hbe, ha, hb, hcc⟩
              go_simp
              first | done | with_reducible rfl
            rotate_left
            · simp only [Act.put, List.setIfInBounds_toArray, List.set_cons_zero, List.set_cons_succ, i64_w, i32_w]
              rfl
            refine pure_ (i := 3) (N := some 37) (v := ?_) (a' := ?_) #[true, true, true, true, false, false, false, false, false, false, false, false, false, false] rfl rfl (by kernel_rfl) (fun _ _ _ h => h) (Or.inl ⟨by rfl, ?_⟩) ?_ ?_
            rotate_left
            · intro w'
              go_simp
              first | done | with_reducible rfl
            rotate_left
            · simp only [Act.put, List.setIfInBounds_toArray, List.set_cons_zero, List.set_cons_succ, i64_w, i32_w]
              rfl
            refine pure_ (i := 4) (N := some 38) (v := ?_) (a' := ?_) #[true, true, true, true, true, false, false, false, false, false, false, false, false, false] rfl rfl (by kernel_rfl) (fun _ _ _ h => h) (Or.inl ⟨by rfl, ?_⟩) ?_ ?_
            rotate_left
            · intro w'
              go_simp
              first | done | with_reducible rfl
            rotate_left
            · simp only [Act.put, List.setIfInBounds_toArray, List.set_cons_zero, List.set_cons_succ, i64_w, i32_w]
              rfl
            refine take_ (i := 5) (N := some 39) (v := ?_) (a' := ?_) #[true, true, true, true, true, true, false, false, false, false, false, false, false, false] rfl rfl (by kernel_rfl) (fun _ _ _ h => h) (Or.inl ⟨by rfl, ?_⟩) hHeld ?_ ?_
            rotate_left
            · rintro w' ⟨hbe, ha, hb, hcc⟩
              go_simp
              first | done | with_reducible rfl
            rotate_left
            · simp only [Act.put, List.setIfInBounds_toArray, List.set_cons_zero, List.set_cons_succ, i64_w, i32_w]
              rfl
            refine take_ (i := 6) (N := some 40) (v := ?_) (a' := ?_) #[true, true, true, true, true, true, true, false, false, false, false, false, false, false] rfl rfl (by kernel_rfl) (fun _ _ _ h => h) (Or.inl ⟨by rfl, ?_⟩) hHeld ?_ ?_
            rotate_left
            · rintro w' ⟨hbe, ha, hb, hcc⟩
              go_simp
              first | done | with_reducible rfl
            rotate_left
            · simp only [Act.put, List.setIfInBounds_toArray, List.set_cons_zero, List.set_cons_succ, i64_w, i32_w]
              rfl
            refine pure_ (i := 9) (N := some 43) (v := ?_) (a' := ?_) #[true, true, true, true, true, true, true, false, false, true, false, false, false, false] rfl rfl (by kernel_rfl) (fun _ _ _ h => h) (Or.inl ⟨by rfl, ?_⟩) ?_ ?_
            rotate_left
            · intro w'
              go_simp
              first | done | with_reducible rfl
            rotate_left
            · simp only [Act.put, List.setIfInBounds_toArray, List.set_cons_zero, List.set_cons_succ, i64_w, i32_w]
              rfl
            refine pure_ (i := 10) (N := some 44) (v := ?_) (a' := ?_) #[true, true, true, true, true, true, true, false, false, true, true, false, false, false] rfl rfl (by kernel_rfl) (fun _ _ _ h => h) (Or.inl ⟨by rfl, ?_⟩) ?_ ?_
            rotate_left
            · intro w'
              go_simp
              first | done | with_reducible rfl
            rotate_left
            · simp only [Act.put, List.setIfInBounds_toArray, List.set_cons_zero, List.set_cons_succ, i64_w, i32_w]
              rfl
            refine one_ (i := 7) (N := some 41) #[true, true, true, true, true, true, true, true, false, true, true, false, false, false] rfl rfl (by kernel_rfl) (by decide) (fun K hK => ?_)
            refine goes_ Try.func32 (by kernel_rfl) rfl #[pt g] (by rfl) rfl rfl (by (try simp only [List.map_toArray, List.map_cons, List.map_nil]); first | done | rfl) ?_
            have hus := used_any w1.drew base g S d (HH.out.below HB.out.drew) HSM.out
            rw [← HU.out] at hus
            refine hus.mono ?_
            rintro r w9 ⟨rfl, hB9⟩
            have HB9 := Lib.hid (show Below w.heap.size w w9 from below_then HB.out HB.out.size (((Below.refl _ _).drew).trans hB9))
            refine ⟨_, rfl, ?_⟩
            refine hK.out _ _ ⟨HB9.out, (hB9.cell (p := ⟨b0, 0, none⟩) k0).trans e0, (hB9.cell (p := ⟨b2, 0, none⟩) k2).trans e2, (hB9.cell (p := ⟨g, 0, none⟩) kg).trans eg0⟩ (fun hHeld1 => ?_)
            clear hK K
            refine norm_ (a' := ?_) ?_ ?_
            rotate_left
            · show Act.put _ (some 41) _ = _
              simp only [Act.put, List.setIfInBounds_toArray, List.set_cons_zero, List.set_cons_succ, i64_w, i32_w]
              rfl
            refine pure_ (i := 8) (N := some 42) (v := ?_) (a' := ?_) #[true, true, true, true, true, true, true, true, true, true, true, false, false, false] rfl rfl (by kernel_rfl) (fun _ _ _ h => h) (Or.inl ⟨by rfl, ?_⟩) ?_ ?_
            rotate_left
            · intro w'
              go_simp
              with_reducible rfl
            rotate_left
            · simp only [Act.put, List.setIfInBounds_toArray, List.set_cons_zero, List.set_cons_succ, i64_w, i32_w]
              rfl
            refine pure_ (i := 11) (N := some 45) (v := ?_) (a' := ?_) #[true, true, true, true, true, true, true, true, true, true, true, true, false, false] rfl rfl (by kernel_rfl) (fun _ _ _ h => h) (Or.inl ⟨by rfl, ?_⟩) ?_ ?_
            rotate_left
            · intro w'
              go_simp
              with_reducible rfl
            rotate_left
            · simp only [Act.put, List.setIfInBounds_toArray, List.set_cons_zero, List.set_cons_succ, i64_w, i32_w]
              rfl
            refine tail_list 12 (t := [12, 13]) (fuel := 0) rfl rfl rfl (by kernel_rfl) (by decide) ?_
            clear hHeld hHeld1
            simp only [HW1.out, HW2.out]
            go_wp2_with fail
            go_ret
            exact ⟨rfl, HB9.out⟩
        · go_upto_region 7 with (fail)
          refine start_ (S := fun w' => Below w.heap.size w w' ∧ w'.cell? ⟨b0, 0, none⟩ = some (pt g) ∧ w'.cell? ⟨b2, 0, none⟩ = some (.slice A n c) ∧ w'.cell? ⟨g, 0, none⟩ = some (.int .i64 ro)) (ds := [12, 13]) (n := 14) #[false, false, false, false, false, false, false, false, false, false, false, false, false, false] rfl rfl rfl ?hS0 (fun hHeld => ?hrun)
          case hS0 => exact ⟨HB.out.drew, e0, e2, eg0⟩
          case hrun =>
            refine take_ (i := 0) (N := some 34) (v := ?_) (a' := ?_) #[true, false, false, false, false, false, false, false, false, false, false, false, false, false] rfl rfl (by kernel_rfl) (fun _ _ _ h => h) (Or.inl ⟨by rfl, ?_⟩) hHeld ?_ ?_
            rotate_left
            · rintro w' ⟨hbe, ha, hb, hcc⟩
              go_simp
              first | done | with_reducible rfl
            rotate_left
            · simp only [Act.put, List.setIfInBounds_toArray, List.set_cons_zero, List.set_cons_succ, i64_w, i32_w]
              rfl
            refine pure_ (i := 1) (N := some 35) (v := ?_) (a' := ?_) #[true, true, false, false, false, false, false, false, false, false, false, false, false, false] rfl rfl (by kernel_rfl) (fun _ _ _ h => h) (Or.inl ⟨by rfl, ?_⟩) ?_ ?_
            rotate_left
            · intro w'
              go_simp
              first | done | with_reducible rfl
            rotate_left
            · simp only [Act.put, List.setIfInBounds_toArray, List.set_cons_zero, List.set_cons_succ, i64_w, i32_w]
              rfl
            refine take_ (i := 2) (N := some 36) (v := ?_) (a' := ?_) #[true, true, true, false, false, false, false, false, false, false, false, false, false, false] rfl rfl (by kernel_rfl) (fun _ _ _ h => h) (Or.inl ⟨by rfl, ?_⟩) hHeld ?_ ?_
            rotate_left
            · rintro w' ⟨hbe, ha, hb, hcc⟩
              go_simp
              first | done | with_reducible rfl
            rotate_left
            · simp only [Act.put, List.setIfInBounds_toArray, List.set_cons_zero, List.set_cons_succ, i64_w, i32_w]
              rfl
            refine pure_ (i := 3) (N := some 37) (v := ?_) (a' := ?_) #[true, true, true, true, false, false, false, false, false, false, false, false, false, false] rfl rfl (by kernel_rfl) (fun _ _ _ h => h) (Or.inl ⟨by rfl, ?_⟩) ?_ ?_
            rotate_left
            · intro w'
              go_simp
              first | done | with_reducible rfl
            rotate_left
            · simp only [Act.put, List.setIfInBounds_toArray, List.set_cons_zero, List.set_cons_succ, i64_w, i32_w]
              rfl
            refine pure_ (i := 4) (N := some 38) (v := ?_) (a' := ?_) #[true, true, true, true, true, false, false, false, false, false, false, false, false, false] rfl rfl (by kernel_rfl) (fun _ _ _ h => h) (Or.inl ⟨by rfl, ?_⟩) ?_ ?_
            rotate_left
            · intro w'
              go_simp
              first | done | with_reducible rfl
            rotate_left
            · simp only [Act.put, List.setIfInBounds_toArray, List.set_cons_zero, List.set_cons_succ, i64_w, i32_w]
              rfl
            refine take_ (i := 5) (N := some 39) (v := ?_) (a' := ?_) #[true, true, true, true, true, true, false, false, false, false, false, false, false, false] rfl rfl (by kernel_rfl) (fun _ _ _ h => h) (Or.inl ⟨by rfl, ?_⟩) hHeld ?_ ?_
            rotate_left
            · rintro w' ⟨hbe, ha, hb, hcc⟩
              go_simp
              first | done | with_reducible rfl
            rotate_left
            · simp only [Act.put, List.setIfInBounds_toArray, List.set_cons_zero, List.set_cons_succ, i64_w, i32_w]
              rfl
            refine take_ (i := 6) (N := some 40) (v := ?_) (a' := ?_) #[true, true, true, true, true, true, true, false, false, false, false, false, false, false] rfl rfl (by kernel_rfl) (fun _ _ _ h => h) (Or.inl ⟨by rfl, ?_⟩) hHeld ?_ ?_
            rotate_left
            · rintro w' ⟨hbe, ha, hb, hcc⟩
              go_simp
              first | done | with_reducible rfl
            rotate_left
            · simp only [Act.put, List.setIfInBounds_toArray, List.set_cons_zero, List.set_cons_succ, i64_w, i32_w]
              rfl
            refine pure_ (i := 9) (N := some 43) (v := ?_) (a' := ?_) #[true, true, true, true, true, true, true, false, false, true, false, false, false, false] rfl rfl (by kernel_rfl) (fun _ _ _ h => h) (Or.inl ⟨by rfl, ?_⟩) ?_ ?_
            rotate_left
            · intro w'
              go_simp
              first | done | with_reducible rfl
            rotate_left
            · simp only [Act.put, List.setIfInBounds_toArray, List.set_cons_zero, List.set_cons_succ, i64_w, i32_w]
              rfl
            refine pure_ (i := 10) (N := some 44) (v := ?_) (a' := ?_) #[true, true, true, true, true, true, true, false, false, true, true, false, false, false] rfl rfl (by kernel_rfl) (fun _ _ _ h => h) (Or.inl ⟨by rfl, ?_⟩) ?_ ?_
            rotate_left
            · intro w'
              go_simp
              first | done | with_reducible rfl
            rotate_left
            · simp only [Act.put, List.setIfInBounds_toArray, List.set_cons_zero, List.set_cons_succ, i64_w, i32_w]
              rfl
            refine one_ (i := 7) (N := some 41) #[true, true, true, true, true, true, true, true, false, true, true, false, false, false] rfl rfl (by kernel_rfl) (by decide) (fun K hK => ?_)
            refine goes_ Try.func32 (by kernel_rfl) rfl #[pt g] (by rfl) rfl rfl (by (try simp only [List.map_toArray, List.map_cons, List.map_nil]); first | done | rfl) ?_
            have hus := used_any w1.drew base g S d (HH.out.below HB.out.drew) HSM.out
            rw [← HU.out] at hus
            refine hus.mono ?_
            rintro r w9 ⟨rfl, hB9⟩
            have HB9 := Lib.hid (show Below w.heap.size w w9 from below_then HB.out HB.out.size (((Below.refl _ _).drew).trans hB9))
            refine ⟨_, rfl, ?_⟩
            refine hK.out _ _ ⟨HB9.out, (hB9.cell (p := ⟨b0, 0, none⟩) k0).trans e0, (hB9.cell (p := ⟨b2, 0, none⟩) k2).trans e2, (hB9.cell (p := ⟨g, 0, none⟩) kg).trans eg0⟩ (fun hHeld1 => ?_)
            clear hK K
            refine norm_ (a' := ?_) ?_ ?_
            rotate_left
            · show Act.put _ (some 41) _ = _
              simp only [Act.put, List.setIfInBounds_toArray, List.set_cons_zero, List.set_cons_succ, i64_w, i32_w]
              rfl
            refine pure_ (i := 8) (N := some 42) (v := ?_) (a' := ?_) #[true, true, true, true, true, true, true, true, true, true, true, false, false, false] rfl rfl (by kernel_rfl) (fun _ _ _ h => h) (Or.inl ⟨by rfl, ?_⟩) ?_ ?_
            rotate_left
            · intro w'
              go_simp
              with_reducible rfl
            rotate_left
            · simp only [Act.put, List.setIfInBounds_toArray, List.set_cons_zero, List.set_cons_succ, i64_w, i32_w]
              rfl
            refine pure_ (i := 11) (N := some 45) (v := ?_) (a' := ?_) #[true, true, true, true, true, true, true, true, true, true, true, true, false, false] rfl rfl (by kernel_rfl) (fun _ _ _ h => h) (Or.inl ⟨by rfl, ?_⟩) ?_ ?_
            rotate_left
            · intro w'
              go_simp
              with_reducible rfl
            rotate_left
            · simp only [Act.put, List.setIfInBounds_toArray, List.set_cons_zero, List.set_cons_succ, i64_w, i32_w]
              rfl
            refine tail_list 12 (t := [12, 13]) (fuel := 0) rfl rfl rfl (by kernel_rfl) (by decide) ?_
            clear hHeld hHeld1
            simp only [HW1.out, HW2.out]
            go_wp2_with fail
            go_ret
            exact ⟨rfl, HB9.out⟩
end Go.Proofs.Ytnjdighpdcabcaa
