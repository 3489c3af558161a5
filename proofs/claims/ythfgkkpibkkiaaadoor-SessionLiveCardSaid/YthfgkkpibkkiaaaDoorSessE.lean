/- Calls at an end: Tick. -/
import Derived.Test.YthfgkkpibkkiaaaDoorSessD
set_option linter.unusedVariables false
set_option linter.unusedSimpArgs false
namespace Go.Proofs.YthfgkkpibkkiaaaDoor
attribute [local go_sem] Go.Proofs.YthfgkkpibkkiaaaDoorW.PrintMore.min_two Go.Proofs.YthfgkkpibkkiaaaDoorW.PrintMore.min2_int
open Go.RowKit Go.Proofs.YthfgkkpibkkiaaaDoorW.PrintWords Go.Proofs.YthfgkkpibkkiaaaDoorW.PrintLast Go.Proofs.YthfgkkpibkkiaaaDoor.PSessionPlays

def frameOf (e : E) (i : Nat) (l : List Int) : S24 := ⟨e.ep, (e.came.length : Int), true, ((e.there + i : Nat) : Int), l⟩
def windowOf (e : E) : List (List Int) := (e.sent.drop e.there).take 4
def tickE (e : E) : List S24 := if e.there < e.sent.length then (windowOf e).mapIdx (frameOf e) else [⟨e.ep, (e.came.length : Int), false, 0, []⟩]
/-- What lies while Tick goes on. -/
def EnS (w0 : World) (T : TypeId) (g : Nat) (e : E) (sv cv : Value) (w : World) : Prop :=
  (Below w0.heap.size w0 w ∧ EndCells T w g e sv cv ∧ g < w0.heap.size) ∧ w.cell? ⟨g, 0, none⟩ = some (.int .i64 e.ep) ∧ w.cell? ⟨g, 1, none⟩ = some sv ∧ w.cell? ⟨g, 2, none⟩ = some (.int .i64 (e.there : Int)) ∧ w.cell? ⟨g, 3, none⟩ = some cv
section
variable {w0 w w' : World} {T : TypeId} {g : Nat} {e : E} {sv cv : Value}
theorem EnS.mk (h1 : Below w0.heap.size w0 w) (h3 : EndCells T w g e sv cv) (h : g < w0.heap.size) : EnS w0 T g e sv cv w := by
  obtain ⟨c0, c1, c2, c3, _⟩ := cells4 h3
  exact ⟨⟨h1, h3, h⟩, c0, c1, c2, c3⟩
theorem EnS.step (h : EnS w0 T g e sv cv w) (k : Below w0.heap.size w w') : EnS w0 T g e sv cv w' := by
  obtain ⟨⟨h1, h3, h4⟩, _⟩ := h
  exact EnS.mk (h1.trans k) ((k.block g h4).trans h3) h4
theorem EnS.drew (h : EnS w0 T g e sv cv w) : EnS w0 T g e sv cv w.drew := h.step ((Below.refl _ _).drew)
end
theorem zero24 (w : World) : (zeroValue 24).run Tryd.prog w = .ok (.agg #[.int .i64 0, .int .i64 0, .bool false, .int .i64 0, .slice none 0 0]) w := by kernel_rfl
theorem info24 : (Tryd.prog.info? 24).map (fun i => (i.zero, i.size, i.bytes)) = some (some (.agg #[.int .i64 0, .int .i64 0, .bool false, .int .i64 0, .slice none 0 0]), 5, 56) := by kernel_rfl
theorem one_frame (w : World) (base : Nat) (hb : base ≤ w.heap.size) (x : S24) (hx : x.f4 = []) : k24.R 24 (w.alloc (.cells #[.int .i64 x.f0, .int .i64 x.f1, .bool x.f2, .int .i64 x.f3, .slice none 0 0] 24)) base (fun _ => True) (.slice (some ⟨w.heap.size, 0, none⟩) 1 1) [x] := by
  refine ⟨fun _ _ => trivial, [.int .i64 x.f0, .int .i64 x.f1, .bool x.f2, .int .i64 x.f3, .slice none 0 0], ⟨rfl, .inr ⟨w.heap.size, 1, _, rfl, hb, heap_alloc_new w _, Nat.le_refl _, by unfold maxLen; omega, rfl, rfl⟩⟩, rfl, fun j p hj => ?_⟩
  cases j with
  | zero =>
    simp at hj
    subst hj
    exact k24_mkM _ _ _ x (by rw [hx]; exact Kd.R_nil _ _ _ _ _)
  | succ j => simp at hj
set_option maxRecDepth 100000 in
set_option maxHeartbeats 8000000 in
theorem tick_any (w : World) (base g : Nat) (S : Nat → Prop) (e : E) (h : EndAt 77 w base g S e) (hq : e.came.length ≤ 1000000) (hq2 : e.sent.length ≤ 1000000) (hth : e.there ≤ 1000000) (hsz : ∀ l ∈ e.sent, l.length ≤ 140737488351232) :
    Calls Tryd.prog 22 #[.pointer (some ⟨g, 0, none⟩)] w fun r w' => ∃ v, r = .returned v ∧ k24.R 24 w' w.heap.size (fun _ => True) v (tickE e) ∧ Below w.heap.size w w' := by
  obtain ⟨vs, vc, Ss, Sc, h1, h2, h3, h4, h5⟩ := h.row
  obtain ⟨As, cs, rfl, hcs, hCs⟩ := Kd.R_reads h2
  obtain ⟨Ac, cc, rfl, _, _⟩ := Kd.R_reads h3
  have hlt := h.glt
  obtain ⟨m, hm⟩ : ∃ m, m = e.sent.length := ⟨_, rfl⟩
  obtain ⟨mc, hmc⟩ : ∃ m, m = e.came.length := ⟨_, rfl⟩
  obtain ⟨th, hth'⟩ : ∃ t, t = e.there := ⟨_, rfl⟩
  rw [← hm] at h1 hq2 hcs
  rw [← hmc] at h1 hq
  rw [← hth'] at hth
  have HM := Lib.hid hm
  have HMC := Lib.hid hmc
  have HTH := Lib.hid hth'
  have HCs := Lib.hid hCs
  have HSZ := Lib.hid hsz
  have HS := Lib.hid (EnS.mk (Below.refl _ _) h1 hlt)
  clear h h1 h2 h3 h4 h5 hCs hm hmc hth' hsz
  go_enter Tryd.func22, Tryd.ntmps22
  go_upto_region 1 with (fail)
  refine start_ (S := EnS w 77 g e (.slice As m cs) (.slice Ac mc cc)) (ds := [11]) (n := 12) #[false, false, false, false, false, false, false, false, false, false, false, false] rfl rfl rfl ?hS0 (fun hHeld => ?hrun)
  case hS0 => exact HS.out.drew
  case hrun =>
    refine pure_ (i := 0) (N := some 9) (v := ?_) (a' := ?_) #[true, false, false, false, false, false, false, false, false, false, false, false] rfl rfl (by kernel_rfl) (fun _ _ _ h => h) (Or.inl ⟨by rfl, ?_⟩) ?_ ?_
    rotate_left
    · intro w'
      go_simp
      first | done | with_reducible rfl
    rotate_left
    · simp only [Act.put, List.setIfInBounds_toArray, List.set_cons_zero, List.set_cons_succ, i64_w, i32_w]
      rfl
    refine pure_ (i := 1) (N := some 10) (v := ?_) (a' := ?_) #[true, true, false, false, false, false, false, false, false, false, false, false] rfl rfl (by kernel_rfl) (fun _ _ _ h => h) (Or.inl ⟨by rfl, ?_⟩) ?_ ?_
    rotate_left
    · intro w'
      go_simp
      first | done | with_reducible rfl
    rotate_left
    · simp only [Act.put, List.setIfInBounds_toArray, List.set_cons_zero, List.set_cons_succ, i64_w, i32_w]
      rfl
    refine pure_ (i := 2) (N := some 11) (v := ?_) (a' := ?_) #[true, true, true, false, false, false, false, false, false, false, false, false] rfl rfl (by kernel_rfl) (fun _ _ _ h => h) (Or.inl ⟨by rfl, ?_⟩) ?_ ?_
    rotate_left
    · intro w'
      go_simp
      first | done | with_reducible rfl
    rotate_left
    · simp only [Act.put, List.setIfInBounds_toArray, List.set_cons_zero, List.set_cons_succ, i64_w, i32_w]
      rfl
    refine take_ (i := 3) (N := some 12) (v := ?_) (a' := ?_) #[true, true, true, true, false, false, false, false, false, false, false, false] rfl rfl (by kernel_rfl) (fun _ _ _ h => h) (Or.inl ⟨by rfl, ?_⟩) hHeld ?_ ?_
    rotate_left
    · rintro w' ⟨_, s0, s1, s2, s3⟩
      go_simp
      first | done | with_reducible rfl
    rotate_left
    · simp only [Act.put, List.setIfInBounds_toArray, List.set_cons_zero, List.set_cons_succ, i64_w, i32_w]
      rfl
    refine pure_ (i := 4) (N := some 13) (v := ?_) (a' := ?_) #[true, true, true, true, true, false, false, false, false, false, false, false] rfl rfl (by kernel_rfl) (fun _ _ _ h => h) (Or.inl ⟨by rfl, ?_⟩) ?_ ?_
    rotate_left
    · intro w'
      go_simp
      first | done | with_reducible rfl
    rotate_left
    · simp only [Act.put, List.setIfInBounds_toArray, List.set_cons_zero, List.set_cons_succ, i64_w, i32_w]
      rfl
    refine pure_ (i := 5) (N := some 14) (v := ?_) (a' := ?_) #[true, true, true, true, true, true, false, false, false, false, false, false] rfl rfl (by kernel_rfl) (fun _ _ _ h => h) (Or.inl ⟨by rfl, ?_⟩) ?_ ?_
    rotate_left
    · intro w'
      go_simp
      first | done | with_reducible rfl
    rotate_left
    · simp only [Act.put, List.setIfInBounds_toArray, List.set_cons_zero, List.set_cons_succ, i64_w, i32_w]
      rfl
    refine pure_ (i := 6) (N := some 15) (v := ?_) (a' := ?_) #[true, true, true, true, true, true, true, false, false, false, false, false] rfl rfl (by kernel_rfl) (fun _ _ _ h => h) (Or.inl ⟨by rfl, ?_⟩) ?_ ?_
    rotate_left
    · intro w'
      go_simp
      first | done | with_reducible rfl
    rotate_left
    · simp only [Act.put, List.setIfInBounds_toArray, List.set_cons_zero, List.set_cons_succ, i64_w, i32_w]
      rfl
    refine take_ (i := 7) (N := some 16) (v := ?_) (a' := ?_) #[true, true, true, true, true, true, true, true, false, false, false, false] rfl rfl (by kernel_rfl) (fun _ _ _ h => h) (Or.inl ⟨by rfl, ?_⟩) hHeld ?_ ?_
    rotate_left
    · rintro w' ⟨_, s0, s1, s2, s3⟩
      go_simp
      first | done | with_reducible rfl
    rotate_left
    · simp only [Act.put, List.setIfInBounds_toArray, List.set_cons_zero, List.set_cons_succ, i64_w, i32_w]
      rfl
    refine pure_ (i := 8) (N := some 17) (v := ?_) (a' := ?_) #[true, true, true, true, true, true, true, true, true, false, false, false] rfl rfl (by kernel_rfl) (fun _ _ _ h => h) (Or.inl ⟨by rfl, ?_⟩) ?_ ?_
    rotate_left
    · intro w'
      go_simp
      first | done | with_reducible rfl
    rotate_left
    · simp only [Act.put, List.setIfInBounds_toArray, List.set_cons_zero, List.set_cons_succ, i64_w, i32_w]
      rfl
    refine pure_ (i := 9) (N := some 18) (v := ?_) (a' := ?_) #[true, true, true, true, true, true, true, true, true, true, false, false] rfl rfl (by kernel_rfl) (fun _ _ _ h => h) (Or.inl ⟨by rfl, ?_⟩) ?_ ?_
    rotate_left
    · intro w'
      go_simp
      first | done | with_reducible rfl
    rotate_left
    · simp only [Act.put, List.setIfInBounds_toArray, List.set_cons_zero, List.set_cons_succ, i64_w, i32_w]
      rfl
    refine one_ (i := 10) (N := some 3) #[true, true, true, true, true, true, true, true, true, true, true, false] rfl rfl (by kernel_rfl) (by decide) (fun K hK => ?_)
    refine value_ (by rfl) rfl (by go_simp; first | rfl | exact ⟨rfl, rfl⟩) ?_
    refine hK.out _ _ (hHeld.step ((Below.refl w.heap.size w.drew).alloc (Nat.le_refl _) _)) (fun hHeld1 => ?_)
    clear hK K
    refine norm_ (a' := ?_) ?_ ?_
    rotate_left
    · show Act.put _ (some 3) _ = _
      simp only [Act.put, List.setIfInBounds_toArray, List.set_cons_zero, List.set_cons_succ, i64_w, i32_w]
      rfl
    refine tail_list 11 (t := [11]) (fuel := 0) rfl rfl rfl (by kernel_rfl) (by decide) ?_
    go_upto_region 2 with (fail)
    obtain ⟨w1, hw1⟩ : ∃ w1, w1 = (w.alloc (.cells #[.int .i64 e.ep, .int .i64 (mc : Int), .bool false, .int .i64 0, .slice none 0 0] 24)).drew := ⟨_, rfl⟩
    rw [← hw1]
    have hB1 : Below w.heap.size w w1 := by rw [hw1]; exact ((Below.refl _ _).alloc (Nat.le_refl _) _).drew
    have hf1 : w1.heap[w.heap.size]? = some (.cells #[.int .i64 e.ep, .int .i64 (mc : Int), .bool false, .int .i64 0, .slice none 0 0] 24 (0, 0)) := by rw [hw1]; exact heap_alloc_new w _
    have HS1 := Lib.hid (HS.out.step hB1)
    have HF1 := Lib.hid hf1
    have hth0 : e.there ≤ 1000000 := by rw [← HTH.out]; exact hth
    obtain ⟨en, hen⟩ : ∃ en, en = min (e.there + 4) m := ⟨_, rfl⟩
    have hmn : (if (m : Int) < (e.there : Int) + 4 then (m : Int) else (e.there : Int) + 4) = (en : Int) := by split <;> omega
    have HEN := Lib.hid hen
    clear hw1 hB1 hf1 hHeld hHeld1 hth hen
    refine start_ (S := EnS w 77 g e (.slice As m cs) (.slice Ac mc cc)) (ds := [11]) (n := 12) #[false, false, false, false, false, false, false, false, false, false, false, false] rfl rfl rfl ?hS0 (fun hHeld => ?hrun)
    case hS0 => exact HS1.out.drew
    case hrun =>
      refine pure_ (i := 0) (N := some 19) (v := ?_) (a' := ?_) #[true, false, false, false, false, false, false, false, false, false, false, false] rfl rfl (by kernel_rfl) (fun _ _ _ h => h) (Or.inl ⟨by rfl, ?_⟩) ?_ ?_
      rotate_left
      · intro w'
        go_simp
        first | done | with_reducible rfl
      rotate_left
      · simp only [Act.put, List.setIfInBounds_toArray, List.set_cons_zero, List.set_cons_succ, i64_w, i32_w]
        rfl
      refine pure_ (i := 1) (N := some 20) (v := ?_) (a' := ?_) #[true, true, false, false, false, false, false, false, false, false, false, false] rfl rfl (by kernel_rfl) (fun _ _ _ h => h) (Or.inl ⟨by rfl, ?_⟩) ?_ ?_
      rotate_left
      · intro w'
        go_simp
        first | done | with_reducible rfl
      rotate_left
      · simp only [Act.put, List.setIfInBounds_toArray, List.set_cons_zero, List.set_cons_succ, i64_w, i32_w]
        rfl
      refine pure_ (i := 2) (N := some 21) (v := ?_) (a' := ?_) #[true, true, true, false, false, false, false, false, false, false, false, false] rfl rfl (by kernel_rfl) (fun _ _ _ h => h) (Or.inl ⟨by rfl, ?_⟩) ?_ ?_
      rotate_left
      · intro w'
        go_simp
        first | done | with_reducible rfl
      rotate_left
      · simp only [Act.put, List.setIfInBounds_toArray, List.set_cons_zero, List.set_cons_succ, i64_w, i32_w]
        rfl
      refine take_ (i := 3) (N := some 22) (v := ?_) (a' := ?_) #[true, true, true, true, false, false, false, false, false, false, false, false] rfl rfl (by kernel_rfl) (fun _ _ _ h => h) (Or.inl ⟨by rfl, ?_⟩) hHeld ?_ ?_
      rotate_left
      · rintro w' ⟨_, s0, s1, s2, s3⟩
        go_simp
        first | done | with_reducible rfl
      rotate_left
      · simp only [Act.put, List.setIfInBounds_toArray, List.set_cons_zero, List.set_cons_succ, i64_w, i32_w]
        rfl
      refine pure_ (i := 4) (N := some 23) (v := ?_) (a' := ?_) #[true, true, true, true, true, false, false, false, false, false, false, false] rfl rfl (by kernel_rfl) (fun _ _ _ h => h) (Or.inl ⟨by rfl, ?_⟩) ?_ ?_
      rotate_left
      · intro w'
        go_simp; rw [show IntKind.i64.wrap ((e.there : Int) + 4) = (e.there : Int) + 4 from by rw [i64_w]; unfold wrap64; omega]
        first | done | with_reducible rfl
      rotate_left
      · simp only [Act.put, List.setIfInBounds_toArray, List.set_cons_zero, List.set_cons_succ, i64_w, i32_w]
        rfl
      refine pure_ (i := 5) (N := some 24) (v := ?_) (a' := ?_) #[true, true, true, true, true, true, false, false, false, false, false, false] rfl rfl (by kernel_rfl) (fun _ _ _ h => h) (Or.inl ⟨by rfl, ?_⟩) ?_ ?_
      rotate_left
      · intro w'
        go_simp
        first | done | with_reducible rfl
      rotate_left
      · simp only [Act.put, List.setIfInBounds_toArray, List.set_cons_zero, List.set_cons_succ, i64_w, i32_w]
        rfl
      refine pure_ (i := 6) (N := some 25) (v := ?_) (a' := ?_) #[true, true, true, true, true, true, true, false, false, false, false, false] rfl rfl (by kernel_rfl) (fun _ _ _ h => h) (Or.inl ⟨by rfl, ?_⟩) ?_ ?_
      rotate_left
      · intro w'
        go_simp
        first | done | with_reducible rfl
      rotate_left
      · simp only [Act.put, List.setIfInBounds_toArray, List.set_cons_zero, List.set_cons_succ, i64_w, i32_w]
        rfl
      refine pure_ (i := 7) (N := some 26) (v := ?_) (a' := ?_) #[true, true, true, true, true, true, true, true, false, false, false, false] rfl rfl (by kernel_rfl) (fun _ _ _ h => h) (Or.inl ⟨by rfl, ?_⟩) ?_ ?_
      rotate_left
      · intro w'
        go_simp
        first | done | with_reducible rfl
      rotate_left
      · simp only [Act.put, List.setIfInBounds_toArray, List.set_cons_zero, List.set_cons_succ, i64_w, i32_w]
        rfl
      refine take_ (i := 8) (N := some 27) (v := ?_) (a' := ?_) #[true, true, true, true, true, true, true, true, true, false, false, false] rfl rfl (by kernel_rfl) (fun _ _ _ h => h) (Or.inl ⟨by rfl, ?_⟩) hHeld ?_ ?_
      rotate_left
      · rintro w' ⟨_, s0, s1, s2, s3⟩
        go_simp
        first | done | with_reducible rfl
      rotate_left
      · simp only [Act.put, List.setIfInBounds_toArray, List.set_cons_zero, List.set_cons_succ, i64_w, i32_w]
        rfl
      refine pure_ (i := 9) (N := some 28) (v := ?_) (a' := ?_) #[true, true, true, true, true, true, true, true, true, true, false, false] rfl rfl (by kernel_rfl) (fun _ _ _ h => h) (Or.inl ⟨by rfl, ?_⟩) ?_ ?_
      rotate_left
      · intro w'
        go_simp
        first | done | with_reducible rfl
      rotate_left
      · simp only [Act.put, List.setIfInBounds_toArray, List.set_cons_zero, List.set_cons_succ, i64_w, i32_w]
        rfl
      refine pure_ (i := 10) (N := some 29) (v := ?_) (a' := ?_) #[true, true, true, true, true, true, true, true, true, true, true, false] rfl rfl (by kernel_rfl) (fun _ _ _ h => h) (Or.inl ⟨by rfl, ?_⟩) ?_ ?_
      rotate_left
      · intro w'
        go_simp
        with_reducible rfl
      rotate_left
      · simp only [Act.put, List.setIfInBounds_toArray, List.set_cons_zero, List.set_cons_succ, i64_w, i32_w]
        rfl
      refine tail_list 11 (t := [11]) (fuel := 0) rfl rfl rfl (by kernel_rfl) (by decide) ?_
      obtain ⟨w2, hw2⟩ : ∃ w2, w2 = w1.drew := ⟨_, rfl⟩
      rw [← hw2] at hHeld ⊢
      have hf2 : w2.heap[w.heap.size]? = some (.cells #[.int .i64 e.ep, .int .i64 (mc : Int), .bool false, .int .i64 0, .slice none 0 0] 24 (0, 0)) := by rw [hw2]; exact HF1.out
      have HS2 := Lib.hid hHeld
      have HF2 := Lib.hid hf2
      obtain ⟨⟨hBw2, _⟩, _, _, d2, _⟩ := hHeld
      obtain ⟨b0, b1, b2, b3, b4⟩ := cells5 hf2
      have HBW2 := Lib.hid hBw2
      clear hw2 hf2 hmn HF1 HS1 hBw2
      by_cases hge : m ≤ e.there
      · have hge' : (en : Int) ≤ (e.there : Int) := by have := HEN.out; omega
        go_wp2_with fail
        go_ret
        refine ⟨_, rfl, ?_, HBW2.out.alloc HBW2.out.size _⟩
        rw [show tickE e = [⟨e.ep, (mc : Int), false, 0, []⟩] from by unfold tickE; rw [if_neg (by have := HM.out; omega), ← HMC.out]]
        exact one_frame w2 w.heap.size HBW2.out.size ⟨e.ep, (mc : Int), false, 0, []⟩ rfl
      · have hge' : ¬ (en : Int) ≤ (e.there : Int) := by have := HEN.out; omega
        have hen1 : (e.there : Int) ≤ (en : Int) := by have := HEN.out; omega
        have hen2 : (en : Int) ≤ (m : Int) := by have := HEN.out; omega
        have hen3 : (en : Int) ≤ (cs : Int) := by have := HEN.out; omega
        have hen0 : (0 : Int) ≤ (e.there : Int) := by omega
        go_upto_region 6 with (fail)
        refine start_ (S := EnS w 77 g e (.slice As m cs) (.slice Ac mc cc)) (ds := []) (n := 12) #[false, false, false, false, false, false, false, false, false, false, false, false] rfl rfl rfl ?hS0 (fun hHeld => ?hrun)
        case hS0 => exact HS2.out.drew
        case hrun =>
          refine pure_ (i := 0) (N := some 38) (v := ?_) (a' := ?_) #[true, false, false, false, false, false, false, false, false, false, false, false] rfl rfl (by kernel_rfl) (fun _ _ _ h => h) (Or.inl ⟨by rfl, ?_⟩) ?_ ?_
          rotate_left
          · intro w'
            go_simp
            first | done | with_reducible rfl
          rotate_left
          · simp only [Act.put, List.setIfInBounds_toArray, List.set_cons_zero, List.set_cons_succ, i64_w, i32_w]
            rfl
          refine pure_ (i := 1) (N := some 39) (v := ?_) (a' := ?_) #[true, true, false, false, false, false, false, false, false, false, false, false] rfl rfl (by kernel_rfl) (fun _ _ _ h => h) (Or.inl ⟨by rfl, ?_⟩) ?_ ?_
          rotate_left
          · intro w'
            go_simp
            first | done | with_reducible rfl
          rotate_left
          · simp only [Act.put, List.setIfInBounds_toArray, List.set_cons_zero, List.set_cons_succ, i64_w, i32_w]
            rfl
          refine pure_ (i := 2) (N := some 40) (v := ?_) (a' := ?_) #[true, true, true, false, false, false, false, false, false, false, false, false] rfl rfl (by kernel_rfl) (fun _ _ _ h => h) (Or.inl ⟨by rfl, ?_⟩) ?_ ?_
          rotate_left
          · intro w'
            go_simp
            first | done | with_reducible rfl
          rotate_left
          · simp only [Act.put, List.setIfInBounds_toArray, List.set_cons_zero, List.set_cons_succ, i64_w, i32_w]
            rfl
          refine take_ (i := 3) (N := some 41) (v := ?_) (a' := ?_) #[true, true, true, true, false, false, false, false, false, false, false, false] rfl rfl (by kernel_rfl) (fun _ _ _ h => h) (Or.inl ⟨by rfl, ?_⟩) hHeld ?_ ?_
          rotate_left
          · rintro w' ⟨_, s0, s1, s2, s3⟩
            go_simp
            first | done | with_reducible rfl
          rotate_left
          · simp only [Act.put, List.setIfInBounds_toArray, List.set_cons_zero, List.set_cons_succ, i64_w, i32_w]
            rfl
          refine pure_ (i := 4) (N := some 42) (v := ?_) (a' := ?_) #[true, true, true, true, true, false, false, false, false, false, false, false] rfl rfl (by kernel_rfl) (fun _ _ _ h => h) (Or.inl ⟨by rfl, ?_⟩) ?_ ?_
          rotate_left
          · intro w'
            go_simp
            first | done | with_reducible rfl
          rotate_left
          · simp only [Act.put, List.setIfInBounds_toArray, List.set_cons_zero, List.set_cons_succ, i64_w, i32_w]
            rfl
          refine pure_ (i := 5) (N := some 43) (v := ?_) (a' := ?_) #[true, true, true, true, true, true, false, false, false, false, false, false] rfl rfl (by kernel_rfl) (fun _ _ _ h => h) (Or.inl ⟨by rfl, ?_⟩) ?_ ?_
          rotate_left
          · intro w'
            go_simp
            first | done | with_reducible rfl
          rotate_left
          · simp only [Act.put, List.setIfInBounds_toArray, List.set_cons_zero, List.set_cons_succ, i64_w, i32_w]
            rfl
          refine pure_ (i := 6) (N := some 44) (v := ?_) (a' := ?_) #[true, true, true, true, true, true, true, false, false, false, false, false] rfl rfl (by kernel_rfl) (fun _ _ _ h => h) (Or.inl ⟨by rfl, ?_⟩) ?_ ?_
          rotate_left
          · intro w'
            go_simp
            first | done | with_reducible rfl
          rotate_left
          · simp only [Act.put, List.setIfInBounds_toArray, List.set_cons_zero, List.set_cons_succ, i64_w, i32_w]
            rfl
          refine take_ (i := 7) (N := some 45) (v := ?_) (a' := ?_) #[true, true, true, true, true, true, true, true, false, false, false, false] rfl rfl (by kernel_rfl) (fun _ _ _ h => h) (Or.inl ⟨by rfl, ?_⟩) hHeld ?_ ?_
          rotate_left
          · rintro w' ⟨_, s0, s1, s2, s3⟩
            go_simp
            first | done | with_reducible rfl
          rotate_left
          · simp only [Act.put, List.setIfInBounds_toArray, List.set_cons_zero, List.set_cons_succ, i64_w, i32_w]
            rfl
          refine pure_ (i := 8) (N := some 46) (v := ?_) (a' := ?_) #[true, true, true, true, true, true, true, true, true, false, false, false] rfl rfl (by kernel_rfl) (fun _ _ _ h => h) (Or.inl ⟨by rfl, ?_⟩) ?_ ?_
          rotate_left
          · intro w'
            go_simp
            first | done | with_reducible rfl
          rotate_left
          · simp only [Act.put, List.setIfInBounds_toArray, List.set_cons_zero, List.set_cons_succ, i64_w, i32_w]
            rfl
          refine pure_ (i := 9) (N := some 47) (v := ?_) (a' := ?_) #[true, true, true, true, true, true, true, true, true, true, false, false] rfl rfl (by kernel_rfl) (fun _ _ _ h => h) (Or.inl ⟨by rfl, ?_⟩) ?_ ?_
          rotate_left
          · intro w'
            go_simp
            first | done | with_reducible rfl
          rotate_left
          · simp only [Act.put, List.setIfInBounds_toArray, List.set_cons_zero, List.set_cons_succ, i64_w, i32_w]
            rfl
          refine pure_ (i := 10) (N := some 48) (v := ?_) (a' := ?_) #[true, true, true, true, true, true, true, true, true, true, true, false] rfl rfl (by kernel_rfl) (fun _ _ _ h => h) (Or.inl ⟨by rfl, ?_⟩) ?_ ?_
          rotate_left
          · intro w'
            go_simp
            first | done | with_reducible rfl
          rotate_left
          · simp only [Act.put, List.setIfInBounds_toArray, List.set_cons_zero, List.set_cons_succ, i64_w, i32_w]
            rfl
          refine pure_ (i := 11) (N := some 49) (v := ?_) (a' := ?_) #[true, true, true, true, true, true, true, true, true, true, true, true] rfl rfl (by kernel_rfl) (fun _ _ _ h => h) (Or.inl ⟨by rfl, ?_⟩) ?_ ?_
          rotate_left
          · intro w'
            go_simp
            first | done | with_reducible rfl
          rotate_left
          · simp only [Act.put, List.setIfInBounds_toArray, List.set_cons_zero, List.set_cons_succ, i64_w, i32_w]
            rfl
          refine done_ (by kernel_rfl) ?_
          obtain ⟨w3, hw3⟩ : ∃ w3, w3 = w2.drew := ⟨_, rfl⟩
          rw [← hw3] at hHeld ⊢
          have hf3 : w3.heap[w.heap.size]? = some (.cells #[.int .i64 e.ep, .int .i64 (mc : Int), .bool false, .int .i64 0, .slice none 0 0] 24 (0, 0)) := by rw [hw3]; exact HF2.out
          have hmid := Kd.C_mid (k := kT) (lo := e.there) (hi := en) (c := cs) HCs.out (by omega) (by have := HM.out; omega) (by have := HM.out; omega)
          have hwin : (e.sent.take en).drop e.there = windowOf e := by
            unfold windowOf
            rw [List.drop_take]
            have := HEN.out
            have := HM.out
            by_cases h : e.there + 4 ≤ m
            · rw [show en - e.there = 4 by omega]
            · rw [List.take_of_length_le (by rw [List.length_drop]; omega), List.take_of_length_le (by rw [List.length_drop]; omega)]
          rw [hwin] at hmid
          have hwl : (windowOf e).length = en - e.there := by unfold windowOf; rw [List.length_take, List.length_drop]; have := HEN.out; have := HM.out; omega
          have h1 : kT.sz = 1 := rfl
          rw [h1, Nat.mul_one] at hmid
          obtain ⟨AA, hAA⟩ : ∃ AA, AA = (if cs = e.there then As else Option.map (fun x => x.add e.there) As) := ⟨_, rfl⟩
          rw [← hAA] at hmid ⊢
          obtain ⟨k, hk⟩ : ∃ k, k = en - e.there := ⟨_, rfl⟩
          obtain ⟨kc, hkc⟩ : ∃ kc, kc = cs - e.there := ⟨_, rfl⟩
          rw [← hk] at hwl ⊢
          rw [← hkc]
          rw [hwl] at hmid
          have hkk : k ≤ 4 := by have := HEN.out; omega
          have HMID := Lib.hid hmid
          have HWL := Lib.hid hwl
          have HS3 := Lib.hid hHeld
          have HF3 := Lib.hid hf3
          have hwsz : ∀ l ∈ windowOf e, l.length ≤ 140737488351232 := fun l hl => HSZ.out l (List.mem_of_mem_drop (List.mem_of_mem_take hl))
          have HWS := Lib.hid hwsz
          have HTK := Lib.hid (show tickE e = (windowOf e).mapIdx (frameOf e) from by unfold tickE; rw [if_pos (by have := HM.out; omega)])
          obtain ⟨fr, hfr⟩ : ∃ fr, fr = (windowOf e).mapIdx (frameOf e) := ⟨_, rfl⟩
          have hfl : fr.length = k := by rw [hfr, List.length_mapIdx, hwl]
          have HFR := Lib.hid hfr
          clear hw3 hf3 hmid hwin hwl hHeld hAA hk hkc hwsz hfr h1 hge hge' hen1 hen2 hen3 d2 b0 b1 b2 b3 b4 HS2 HF2 HBW2
          go_wp2_with fail
          go_loopw [5, 49] (fun vo vi wr => ∃ i : Nat, i ≤ k ∧ vi = .int .i64 (i : Int) ∧ k24.R 24 wr w.heap.size (fun b => b ≠ w.heap.size) vo (fr.take i) ∧ wr.heap[w.heap.size]? = some (.cells #[.int .i64 e.ep, .int .i64 (mc : Int), .bool false, .int .i64 0, .slice none 0 0] 24 (0, 0)) ∧ EnS w 77 g e (.slice As m cs) (.slice Ac mc cc) wr) (fun _ vi _ => k - (intOf vi).toNat)
          case atStart => exact ⟨0, Nat.zero_le _, rfl, Kd.R_nil _ _ _ _ _, HF3.out, HS3.out⟩
          case round =>
            obtain ⟨i, hi, rfl, hR, hF, hSr⟩ := hrel
            have HR := Lib.hid hR
            have HF := Lib.hid hF
            have HSr := Lib.hid hSr
            clear HS3 HF3
            by_cases hin : i < k
            · have hin1 : (i : Int) < (k : Int) := by omega
              have hi0 : (0 : Int) ≤ (i : Int) := by omega
              have hwi : i < (windowOf e).length := by rw [HWL.out]; exact hin
              obtain ⟨ad, Ai, ci, rfl, hcell, hle, hCi⟩ := at_L1 (Kd.C_below HMID.out hSr.1.1) (i : Int) hi0 hin1
              rw [Int.toNat_natCast] at hcell
              obtain ⟨l, hl⟩ : ∃ l, l = (windowOf e)[i]'hwi := ⟨_, rfl⟩
              rw [show rd_L1 (windowOf e) (i : Int) = l from by unfold rd_L1; rw [Int.toNat_natCast, List.getD_eq_getElem?_getD, List.getElem?_eq_getElem hwi, hl]; rfl] at hcell hle hCi
              have HCI := Lib.hid hCi
              have HL := Lib.hid (And.intro hl (HWS.out l (by rw [hl]; exact List.getElem_mem hwi)))
              obtain ⟨b0, b1, b2, b3, b4⟩ := cells5 hF
              clear hR hF hSr hl hCi
              go_upto_region 10 with (fail)
              obtain ⟨w4, hw4⟩ : ∃ w4, w4 = wr.alloc (.cells #[.int .i64 e.ep, .int .i64 (mc : Int), .bool false, .int .i64 0, .slice none 0 0] 24) := ⟨_, rfl⟩
              rw [← hw4]
              have hB4 : Below wr.heap.size wr w4 := by rw [hw4]; exact (Below.refl _ _).alloc (Nat.le_refl _) _
              have hf4 : w4.heap[wr.heap.size]? = some (.cells #[.int .i64 e.ep, .int .i64 (mc : Int), .bool false, .int .i64 0, .slice none 0 0] 24 (0, 0)) := by rw [hw4]; exact heap_alloc_new wr _
              have hwr := HSr.out.1.1.size
              have HS4 := Lib.hid (HSr.out.step (hB4.mono hwr))
              have HB4 := Lib.hid hB4
              have HF4 := Lib.hid hf4
              have HZ4 := Lib.hid (show w4.heap.size = wr.heap.size + 1 by rw [hw4]; simp)
              clear hw4 hB4 hf4
              refine start_ (S := fun w' => EnS w 77 g e (.slice As m cs) (.slice Ac mc cc) w' ∧ Below wr.heap.size wr w' ∧ ∃ bb, w'.heap[wr.heap.size]? = some (.cells #[.int .i64 e.ep, .int .i64 (mc : Int), .bool bb, .int .i64 0, .slice none 0 0] 24 (0, 0))) (ds := [11, 12, 13]) (n := 14) #[false, false, false, false, false, false, false, false, false, false, false, false, false, false] rfl rfl rfl ?hS0 (fun hHeld => ?hrun)
              case hS0 => exact ⟨HS4.out.drew, HB4.out.drew, false, HF4.out⟩
              case hrun =>
                refine pure_ (i := 0) (N := some 55) (v := ?_) (a' := ?_) #[true, false, false, false, false, false, false, false, false, false, false, false, false, false] rfl rfl (by kernel_rfl) (fun _ _ _ h => h) (Or.inl ⟨by rfl, ?_⟩) ?_ ?_
                rotate_left
                · intro w'
                  go_simp
                  first | done | with_reducible rfl
                rotate_left
                · simp only [Act.put, List.setIfInBounds_toArray, List.set_cons_zero, List.set_cons_succ, i64_w, i32_w]
                  rfl
                refine pure_ (i := 1) (N := some 56) (v := ?_) (a' := ?_) #[true, true, false, false, false, false, false, false, false, false, false, false, false, false] rfl rfl (by kernel_rfl) (fun _ _ _ h => h) (Or.inl ⟨by rfl, ?_⟩) ?_ ?_
                rotate_left
                · intro w'
                  go_simp
                  first | done | with_reducible rfl
                rotate_left
                · simp only [Act.put, List.setIfInBounds_toArray, List.set_cons_zero, List.set_cons_succ, i64_w, i32_w]
                  rfl
                refine pure_ (i := 2) (N := some 57) (v := ?_) (a' := ?_) #[true, true, true, false, false, false, false, false, false, false, false, false, false, false] rfl rfl (by kernel_rfl) (fun _ _ _ h => h) (Or.inl ⟨by rfl, ?_⟩) ?_ ?_
                rotate_left
                · intro w'
                  go_simp
                  first | done | with_reducible rfl
                rotate_left
                · simp only [Act.put, List.setIfInBounds_toArray, List.set_cons_zero, List.set_cons_succ, i64_w, i32_w]
                  rfl
                refine take_ (i := 3) (N := some 58) (v := ?_) (a' := ?_) #[true, true, true, true, false, false, false, false, false, false, false, false, false, false] rfl rfl (by kernel_rfl) (fun _ _ _ h => h) (Or.inl ⟨by rfl, ?_⟩) hHeld ?_ ?_
                rotate_left
                · rintro w' ⟨⟨_, s0, s1, s2, s3⟩, _, _⟩
                  go_simp
                  first | done | with_reducible rfl
                rotate_left
                · simp only [Act.put, List.setIfInBounds_toArray, List.set_cons_zero, List.set_cons_succ, i64_w, i32_w]
                  rfl
                refine pure_ (i := 4) (N := some 59) (v := ?_) (a' := ?_) #[true, true, true, true, true, false, false, false, false, false, false, false, false, false] rfl rfl (by kernel_rfl) (fun _ _ _ h => h) (Or.inl ⟨by rfl, ?_⟩) ?_ ?_
                rotate_left
                · intro w'
                  go_simp
                  first | done | with_reducible rfl
                rotate_left
                · simp only [Act.put, List.setIfInBounds_toArray, List.set_cons_zero, List.set_cons_succ, i64_w, i32_w]
                  rfl
                refine pure_ (i := 5) (N := some 60) (v := ?_) (a' := ?_) #[true, true, true, true, true, true, false, false, false, false, false, false, false, false] rfl rfl (by kernel_rfl) (fun _ _ _ h => h) (Or.inl ⟨by rfl, ?_⟩) ?_ ?_
                rotate_left
                · intro w'
                  go_simp; rw [show IntKind.i64.wrap ((e.there : Int) + (i : Int)) = ((e.there + i : Nat) : Int) from by rw [i64_w]; unfold wrap64; omega]
                  first | done | with_reducible rfl
                rotate_left
                · simp only [Act.put, List.setIfInBounds_toArray, List.set_cons_zero, List.set_cons_succ, i64_w, i32_w]
                  rfl
                refine pure_ (i := 6) (N := some 61) (v := ?_) (a' := ?_) #[true, true, true, true, true, true, true, false, false, false, false, false, false, false] rfl rfl (by kernel_rfl) (fun _ _ _ h => h) (Or.inl ⟨by rfl, ?_⟩) ?_ ?_
                rotate_left
                · intro w'
                  go_simp
                  first | done | with_reducible rfl
                rotate_left
                · simp only [Act.put, List.setIfInBounds_toArray, List.set_cons_zero, List.set_cons_succ, i64_w, i32_w]
                  rfl
                refine pure_ (i := 8) (N := some 63) (v := ?_) (a' := ?_) #[true, true, true, true, true, true, true, false, true, false, false, false, false, false] rfl rfl (by kernel_rfl) (fun _ _ _ h => h) (Or.inl ⟨by rfl, ?_⟩) ?_ ?_
                rotate_left
                · intro w'
                  go_simp
                  first | done | with_reducible rfl
                rotate_left
                · simp only [Act.put, List.setIfInBounds_toArray, List.set_cons_zero, List.set_cons_succ, i64_w, i32_w]
                  rfl
                refine one_ (i := 7) (N := some 62) #[true, true, true, true, true, true, true, true, true, false, false, false, false, false] rfl rfl (by kernel_rfl) (by decide) (fun K hK => ?_)
                refine goes_ Tryd.func39 (by kernel_rfl) rfl #[.slice Ai l.length ci] (by rfl) rfl rfl (by (try simp only [List.map_toArray, List.map_cons, List.map_nil]); first | done | rfl) ?_
                refine (clone_any Ai ci l w4.drew (Kd.C_below (Kd.C_below HCI.out HB4.out) ((Below.refl _ _).drew)) hle HL.out.2).mono ?_
                rintro r w5 ⟨v, rfl, hR5, hB5⟩
                obtain ⟨A5, c5, rfl⟩ := Kd.R_slice hR5
                have HR5 := Lib.hid hR5
                have hB5' : Below wr.heap.size wr w5 := HB4.out.trans (((Below.refl w4.heap.size w4).drew.trans hB5).mono HB4.out.size)
                have hf5 : w5.heap[wr.heap.size]? = some (.cells #[.int .i64 e.ep, .int .i64 (mc : Int), .bool false, .int .i64 0, .slice none 0 0] 24 (0, 0)) := blk_below HF4.out ((Below.refl _ _).drew.trans hB5)
                have hS5 := HSr.out.step (hB5'.mono hwr)
                have hz5 : wr.heap.size < w5.heap.size := blk_lt hf5
                have HB5 := Lib.hid hB5'
                have HF5 := Lib.hid hf5
                have HS5 := Lib.hid hS5
                clear hR5 hB5 hf5 hS5 hB5' hHeld
                refine ⟨_, rfl, ?_⟩
                refine hK.out _ _ ⟨HS5.out, HB5.out, false, HF5.out⟩ (fun hHeld1 => ?_)
                clear hK K
                refine norm_ (a' := ?_) ?_ ?_
                rotate_left
                · show Act.put _ (some 62) _ = _
                  simp only [Act.put, List.setIfInBounds_toArray, List.set_cons_zero, List.set_cons_succ, i64_w, i32_w]
                  rfl
                refine one_ (i := 9) (N := none) #[true, true, true, true, true, true, true, true, true, true, false, false, false, false] rfl rfl (by kernel_rfl) (by decide) (fun K hK => ?_)
                obtain ⟨_, _, p2, _, _⟩ := cells5 HF5.out
                have q2 := blk_frozen HF5.out 2
                refine skip_ (w1 := w5.setCell ⟨wr.heap.size, 2, none⟩ (.bool true)) (by rfl) rfl (by go_simp; first | rfl | done) ?_
                have hB6 : Below wr.heap.size wr (w5.setCell ⟨wr.heap.size, 2, none⟩ (.bool true)) := HB5.out.setCell (p := ⟨wr.heap.size, 2, none⟩) (Nat.le_refl _) _
                have hf6 : (w5.setCell ⟨wr.heap.size, 2, none⟩ (.bool true)).heap[wr.heap.size]? = some (.cells #[.int .i64 e.ep, .int .i64 (mc : Int), .bool true, .int .i64 0, .slice none 0 0] 24 (0, 0)) := by rw [blk_set HF5.out 2]; rfl
                refine hK.out _ _ ⟨HSr.out.step (hB6.mono hwr), hB6, true, hf6⟩ (fun hHeld2 => ?_)
                clear hK K
                refine pure_ (i := 10) (N := some 64) (v := ?_) (a' := ?_) #[true, true, true, true, true, true, true, true, true, true, true, false, false, false] rfl rfl (by kernel_rfl) (fun _ _ _ h => h) (Or.inl ⟨by rfl, ?_⟩) ?_ ?_
                rotate_left
                · intro w'
                  go_simp
                  first | done | with_reducible rfl
                rotate_left
                · simp only [Act.put, List.setIfInBounds_toArray, List.set_cons_zero, List.set_cons_succ, i64_w, i32_w]
                  rfl
                refine tail_list 11 (t := [11, 12, 13]) (fuel := 0) rfl rfl rfl (by kernel_rfl) (by decide) ?_
                obtain ⟨w6, hw6⟩ : ∃ w6, w6 = w5.setCell ⟨wr.heap.size, 2, none⟩ (.bool true) := ⟨_, rfl⟩
                rw [← hw6] at hHeld2 hf6 hB6 ⊢
                have hR6 : (Kd.int .u8).R 5 w6 w.heap.size (fun b => wr.heap.size + 1 ≤ b) (.slice A5 l.length c5) l := by
                  rw [hw6]
                  refine Kd.R_far (Kd.R_lower (Kd.R_mono (Kd.R_bound HR5.out) (fun b hb => by have h1 : w4.heap.size ≤ b := hb.2.1; have := HZ4.out; omega)) (by have h1 := HZ4.out; show w.heap.size ≤ w4.heap.size; omega)) (fun b hb => ?_) _
                  show b ≠ wr.heap.size
                  omega
                obtain ⟨f0, f1, f2, f3, f4⟩ := cells5 hf6
                have g3 := blk_frozen hf6 3
                have g4 := blk_frozen hf6 4
                have hl6 : wr.heap.size < w6.heap.size := blk_lt hf6
                have HF6 := Lib.hid hf6
                have HB6 := Lib.hid hB6
                have HR6 := Lib.hid hR6
                obtain ⟨th2, hth2⟩ : ∃ t : Int, t = ((e.there + i : Nat) : Int) := ⟨_, rfl⟩
                have HTH2 := Lib.hid hth2
                have hRb := Kd.R_mono (ok' := fun b => b ≠ w.heap.size ∧ b < wr.heap.size) (Kd.R_bound HR.out) (fun b hb => ⟨hb.1, hb.2.2.1⟩)
                have HRB := Lib.hid hRb
                obtain ⟨W7, hW7⟩ : ∃ W7, W7 = (w6.setCell ⟨wr.heap.size, 3, none⟩ (.int .i64 ((e.there : Int) + (i : Int)))).setCell ⟨wr.heap.size, 4, none⟩ (.slice A5 l.length c5) := ⟨_, rfl⟩
                have hB7 : Below wr.heap.size wr W7 := by rw [hW7]; exact (hB6.setCell (p := ⟨wr.heap.size, 3, none⟩) (Nat.le_refl _) _).setCell (p := ⟨wr.heap.size, 4, none⟩) (Nat.le_refl _) _
                have hR7 : (Kd.int .u8).R 5 W7 w.heap.size (fun b => wr.heap.size + 1 ≤ b) (.slice A5 l.length c5) l := by
                  rw [hW7]
                  refine Kd.R_far (Kd.R_far hR6 (fun b hb => ?_) _) (fun b hb => ?_) _
                  · show b ≠ wr.heap.size
                    omega
                  · show b ≠ wr.heap.size
                    omega
                have hl7 : wr.heap.size < W7.heap.size := by rw [hW7]; simpa [World.setCell] using hl6
                have HB7 := Lib.hid hB7
                have HR7 := Lib.hid hR7
                have HW7 := Lib.hid hW7
                clear hw6 hf6 hB6 hR6 hth2 hRb hB7 hR7 hW7 hHeld1 hHeld2 p2 q2 b0 b1 b2 b3 b4
                go_upto_region 11 with (fail)
                rw [← HW7.out]
                have hf7 : W7.heap[wr.heap.size]? = some (.cells #[.int .i64 e.ep, .int .i64 (mc : Int), .bool true, .int .i64 ((e.there : Int) + (i : Int)), .slice A5 l.length c5] 24 (0, 0)) := by
                  have h6 := blk_set HF6.out 3 (.int .i64 ((e.there : Int) + (i : Int)))
                  rw [HW7.out, blk_set h6 4]
                  rfl
                obtain ⟨r0, r1, r2, r3, r4⟩ := cells5 hf7
                have HF7 := Lib.hid hf7
                clear hf7 f0 f1 f2 f3 f4 g3 g4
                go_wp2_with (at_builtin; refine Kd.R_append k24 (w0 := w) (W := W7) w.heap.size rfl _ _ 43 24 (.agg #[.int .i64 0, .int .i64 0, .bool false, .int .i64 0, .slice none 0 0]) 56 rfl Tryd.underlying43 info24 rfl (by decide) (by decide) u5 (fr.take i) ⟨e.ep, (mc : Int), true, (e.there : Int) + (i : Int), l⟩ [.int .i64 e.ep, .int .i64 (mc : Int), .bool true, .int .i64 ((e.there : Int) + (i : Int)), .slice A5 l.length c5] (fun b => b ≠ w.heap.size ∧ b ≠ wr.heap.size) (fun b => wr.heap.size + 1 ≤ b) rfl rfl ?hp ?hokp ?hfresh ?HO ?HBB ?hb2 ?hl2 ?hk2)
                case hp => exact k24_mkM _ _ _ _ HR7.out
                case hokp =>
                  intro b hb
                  have hb' : wr.heap.size + 1 ≤ b := hb
                  refine ⟨⟨by omega, by omega⟩, fun e' => ?_⟩
                  have := (own_ok HRB.out b e'.symm).2
                  omega
                case hfresh => exact fun b hb => ⟨by omega, by omega⟩
                case HO =>
                  refine Kd.R_mono (Kd.R_step HRB.out (fun b hb _ => HB7.out.block b hb.2)) (fun b hb => ⟨hb.1, by omega⟩)
                case HBB => exact HSr.out.1.1.trans (HB7.out.mono hwr)
                case hb2 => omega
                case hl2 => rw [List.length_take]; omega
                case hk2 =>
                  intro v1 w8 hR1 hB8 hg8 _
                  obtain ⟨A8, c8, rfl⟩ := Kd.R_slice hR1
                  have hx : fr[i]? = some ⟨e.ep, (mc : Int), true, (e.there : Int) + (i : Int), l⟩ := by
                    rw [HFR.out, List.getElem?_mapIdx, List.getElem?_eq_getElem hwi, ← HL.out.1, HMC.out]
                    rfl
                  have htk : fr.take (i + 1) = fr.take i ++ [⟨e.ep, (mc : Int), true, (e.there : Int) + (i : Int), l⟩] := by
                    rw [List.take_add_one, hx]
                    rfl
                  rw [← htk] at hR1
                  have hF8 : w8.heap[w.heap.size]? = some (.cells #[.int .i64 e.ep, .int .i64 (mc : Int), .bool false, .int .i64 0, .slice none 0 0] 24 (0, 0)) := by
                    have h7 : W7.heap[w.heap.size]? = wr.heap[w.heap.size]? := HB7.out.block _ (blk_lt HF.out)
                    exact (hg8.block _ (by have := blk_lt HF.out; omega) (fun e' => (own_ok HRB.out _ e'.symm).1 rfl)).trans (h7.trans HF.out)
                  have HR8 := Lib.hid (Kd.R_mono (ok' := fun b => b ≠ w.heap.size) hR1 (fun b hb => hb.1))
                  have HF8 := Lib.hid hF8
                  have HS8 := Lib.hid (HS.out.step hB8)
                  have HTK8 := Lib.hid htk
                  clear hR1 hB8 hg8 hF8 hx htk
                  go_wp2_with fail
                  refine ⟨⟨i + 1, by omega, by go_num, ?_, HF8.out, HS8.out⟩, by first | (simp [intOf]; done) | (simp [intOf]; omega)⟩
                  have h := HR8.out
                  rw [HTK8.out] at h ⊢
                  exact h
            · obtain rfl : i = k := by omega
              have hin1 : ¬ (i : Int) < (i : Int) := by omega
              clear hR hF hSr
              go_wp2_with fail
              go_ret
              refine ⟨_, rfl, ?_, HSr.out.1.1⟩
              rw [HTK.out, ← HFR.out]
              have h := HR.out
              rw [List.take_of_length_le (by omega)] at h
              exact Kd.R_mono h (fun _ _ => trivial)
end Go.Proofs.YthfgkkpibkkiaaaDoor
