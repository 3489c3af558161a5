/- Calls at an end: Done, Send. -/
import Derived.Test.YthfgkkpibkkiaaaDoorSessA
import Derived.Test.YthfgkkpibkkiaaaDoorRegion
set_option linter.unusedVariables false
set_option linter.unusedSimpArgs false
namespace Go.Proofs.YthfgkkpibkkiaaaDoor
open Go.RowKit Go.Proofs.YthfgkkpibkkiaaaDoorW.PrintWords Go.Proofs.YthfgkkpibkkiaaaDoorW.PrintLast Go.Proofs.YthfgkkpibkkiaaaDoor.PSessionPlays

set_option maxRecDepth 100000 in
theorem done_any (w : World) (base g : Nat) (S : Nat → Prop) (e : E) (h : EndAt 77 w base g S e) :
    Calls Tryd.prog 26 #[.pointer (some ⟨g, 0, none⟩)] w fun r w' => r = .returned (.bool (decide (e.there = e.sent.length))) ∧ Below w.heap.size w w' := by
  obtain ⟨vs, vc, Ss, Sc, h1, h2, h3, h4, h5⟩ := h.row
  obtain ⟨A, c, rfl, hc, hC⟩ := Kd.R_reads h2
  obtain ⟨c0, c1, c2, c3, f0, f1, f2, f3⟩ := cells4 h1
  have hlt := h.glt
  obtain ⟨n, hn⟩ : ∃ n, n = e.sent.length := ⟨_, rfl⟩
  rw [← hn] at c1 ⊢
  obtain ⟨t, ht⟩ : ∃ t, t = e.there := ⟨_, rfl⟩
  rw [← ht] at c2 ⊢
  clear h h1 h2 h3 h4 h5 hC hc hn ht
  go_enter Tryd.func26, Tryd.ntmps26
  go_upto_region 1 with (fail)
  refine start_ (S := fun w' => Below w.heap.size w w' ∧ w'.cell? ⟨g, 1, none⟩ = some (.slice A n c) ∧ w'.cell? ⟨g, 2, none⟩ = some (.int .i64 (t : Int))) (ds := [10]) (n := 11) #[false, false, false, false, false, false, false, false, false, false, false] rfl rfl rfl ?hS0 (fun hHeld => ?hrun)
  case hS0 => exact ⟨(Below.refl _ _).drew, c1, c2⟩
  case hrun =>
    refine pure_ (i := 0) (N := some 3) (v := ?_) (a' := ?_) #[true, false, false, false, false, false, false, false, false, false, false] rfl rfl (by kernel_rfl) (fun _ _ _ h => h) (Or.inl ⟨by rfl, ?_⟩) ?_ ?_
    rotate_left
    · intro w'
      go_simp
      first | done | with_reducible rfl
    rotate_left
    · simp only [Act.put, List.setIfInBounds_toArray, List.set_cons_zero, List.set_cons_succ, i64_w, i32_w]
      rfl
    refine pure_ (i := 1) (N := some 4) (v := ?_) (a' := ?_) #[true, true, false, false, false, false, false, false, false, false, false] rfl rfl (by kernel_rfl) (fun _ _ _ h => h) (Or.inl ⟨by rfl, ?_⟩) ?_ ?_
    rotate_left
    · intro w'
      go_simp
      first | done | with_reducible rfl
    rotate_left
    · simp only [Act.put, List.setIfInBounds_toArray, List.set_cons_zero, List.set_cons_succ, i64_w, i32_w]
      rfl
    refine pure_ (i := 2) (N := some 5) (v := ?_) (a' := ?_) #[true, true, true, false, false, false, false, false, false, false, false] rfl rfl (by kernel_rfl) (fun _ _ _ h => h) (Or.inl ⟨by rfl, ?_⟩) ?_ ?_
    rotate_left
    · intro w'
      go_simp
      first | done | with_reducible rfl
    rotate_left
    · simp only [Act.put, List.setIfInBounds_toArray, List.set_cons_zero, List.set_cons_succ, i64_w, i32_w]
      rfl
    refine take_ (i := 3) (N := some 6) (v := ?_) (a' := ?_) #[true, true, true, true, false, false, false, false, false, false, false] rfl rfl (by kernel_rfl) (fun _ _ _ h => h) (Or.inl ⟨by rfl, ?_⟩) hHeld ?_ ?_
    rotate_left
    · rintro w' ⟨hbe, hca, hcb⟩
      go_simp
      first | done | with_reducible rfl
    rotate_left
    · simp only [Act.put, List.setIfInBounds_toArray, List.set_cons_zero, List.set_cons_succ, i64_w, i32_w]
      rfl
    refine pure_ (i := 4) (N := some 7) (v := ?_) (a' := ?_) #[true, true, true, true, true, false, false, false, false, false, false] rfl rfl (by kernel_rfl) (fun _ _ _ h => h) (Or.inl ⟨by rfl, ?_⟩) ?_ ?_
    rotate_left
    · intro w'
      go_simp
      first | done | with_reducible rfl
    rotate_left
    · simp only [Act.put, List.setIfInBounds_toArray, List.set_cons_zero, List.set_cons_succ, i64_w, i32_w]
      rfl
    refine pure_ (i := 5) (N := some 8) (v := ?_) (a' := ?_) #[true, true, true, true, true, true, false, false, false, false, false] rfl rfl (by kernel_rfl) (fun _ _ _ h => h) (Or.inl ⟨by rfl, ?_⟩) ?_ ?_
    rotate_left
    · intro w'
      go_simp
      first | done | with_reducible rfl
    rotate_left
    · simp only [Act.put, List.setIfInBounds_toArray, List.set_cons_zero, List.set_cons_succ, i64_w, i32_w]
      rfl
    refine pure_ (i := 6) (N := some 9) (v := ?_) (a' := ?_) #[true, true, true, true, true, true, true, false, false, false, false] rfl rfl (by kernel_rfl) (fun _ _ _ h => h) (Or.inl ⟨by rfl, ?_⟩) ?_ ?_
    rotate_left
    · intro w'
      go_simp
      first | done | with_reducible rfl
    rotate_left
    · simp only [Act.put, List.setIfInBounds_toArray, List.set_cons_zero, List.set_cons_succ, i64_w, i32_w]
      rfl
    refine take_ (i := 7) (N := some 10) (v := ?_) (a' := ?_) #[true, true, true, true, true, true, true, true, false, false, false] rfl rfl (by kernel_rfl) (fun _ _ _ h => h) (Or.inl ⟨by rfl, ?_⟩) hHeld ?_ ?_
    rotate_left
    · rintro w' ⟨hbe, hca, hcb⟩
      go_simp
      first | done | with_reducible rfl
    rotate_left
    · simp only [Act.put, List.setIfInBounds_toArray, List.set_cons_zero, List.set_cons_succ, i64_w, i32_w]
      rfl
    refine pure_ (i := 8) (N := some 11) (v := ?_) (a' := ?_) #[true, true, true, true, true, true, true, true, true, false, false] rfl rfl (by kernel_rfl) (fun _ _ _ h => h) (Or.inl ⟨by rfl, ?_⟩) ?_ ?_
    rotate_left
    · intro w'
      go_simp
      first | done | with_reducible rfl
    rotate_left
    · simp only [Act.put, List.setIfInBounds_toArray, List.set_cons_zero, List.set_cons_succ, i64_w, i32_w]
      rfl
    refine pure_ (i := 9) (N := some 12) (v := ?_) (a' := ?_) #[true, true, true, true, true, true, true, true, true, true, false] rfl rfl (by kernel_rfl) (fun _ _ _ h => h) (Or.inl ⟨by rfl, ?_⟩) ?_ ?_
    rotate_left
    · intro w'
      go_simp
      first | done | with_reducible rfl
    rotate_left
    · simp only [Act.put, List.setIfInBounds_toArray, List.set_cons_zero, List.set_cons_succ, i64_w, i32_w]
      rfl
    refine tail_list 10 (t := [10]) (fuel := 0) rfl rfl rfl (by kernel_rfl) (by decide) ?_
    have HB := Lib.hid hHeld.1
    go_wp2_with fail
    go_ret
    refine ⟨?_, HB.out⟩
    show Ending.returned (Value.bool ((t : Int) == (n : Int))) = _
    congr 2
    rw [Bool.eq_iff_iff, beq_iff_eq, decide_eq_true_iff]
    omega
theorem infoT : (Tryd.prog.info? 22).map (fun i => (i.zero, i.size, i.bytes)) = some (some (.slice none 0 0), 1, 24) := by kernel_rfl
def sendOk (e : E) (l : List Int) : Bool := decide (l.length ≤ 32768 ∧ e.sent.length ≠ 64)
def sendE (e : E) (l : List Int) : E := if sendOk e l = true then { e with sent := e.sent ++ [l] } else e
theorem own_ok {α : Type} {d : Kd α} {t : Nat} {w : World} {base : Nat} {ok : Nat → Prop} {v : Value} {xs : List α} (h : d.R t w base ok v xs) : ∀ k, v.ownBlock = some k → ok k := h.1
/-- A row of the end's has grown by one text of its own: the block of the end is turned to it. -/
theorem EndAt.grow {T : TypeId} {w w9 w1 : World} {base g : Nat} {S : Nat → Prop} {e : E} {l : List Int} {vs v1 : Value} {vc : Value} {Ss Sc : Nat → Prop}
    (h : EndAt T w base g S e) (h1 : EndCells T w g e vs vc) (h3 : kT.R 22 w base Sc vc e.came) (h4 : ∀ k, Ss k → S k ∧ k ≠ g ∧ ¬ Sc k) (h5 : ∀ k, Sc k → S k ∧ k ≠ g) (hv : ∀ k, vs.ownBlock = some k → Ss k)
    (hB : Below w.heap.size w w9) (hR : kT.R 22 w1 base (fun k => Ss k ∨ w.heap.size ≤ k) v1 (e.sent ++ [l])) (hg : w9.grownBy w1 vs.ownBlock) :
    EndCells T w1 g e vs vc ∧ EndStep T w (w1.setCell ⟨g, 1, none⟩ v1) base g S { e with sent := e.sent ++ [l] } := by
  have hgl := h.glt
  have hz9 := hB.size
  have hz1 := hg.size
  have hbase : base ≤ w.heap.size := by have := h.lt g h.own; omega
  have hne : some g ≠ vs.ownBlock := fun e' => ((h4 _ (hv _ e'.symm)).2.1 rfl).elim
  have hblk : ∀ k, k < w.heap.size → ¬ Ss k → w1.heap[k]? = w.heap[k]? := fun k hk hn => (hg.block k (by omega) (fun e' => hn (hv k e'.symm))).trans (hB.block k hk)
  have hc1 : EndCells T w1 g e vs vc := (hblk g hgl (fun h' => (h4 g h').2.1 rfl)).trans h1
  have hT : Turns S w (w1.setCell ⟨g, 1, none⟩ v1) := ((Turns.of_below hB S).grown hg (fun i e' => .inl (h4 i (hv i e')).1)).set (.inl h.own) v1
  refine ⟨hc1, fun k => k < w1.heap.size ∧ base ≤ k ∧ (S k ∨ w.heap.size ≤ k), ⟨⟨v1, vc, fun k => (Ss k ∨ w.heap.size ≤ k) ∧ base ≤ k ∧ k < w1.heap.size, Sc, ?_, ?_, ?_, ?_, ?_⟩, ?_, ?_⟩, fun k hk => hk.2.2, hT⟩
  · have := blk_set hc1 1 v1
    unfold EndCells
    rw [this]
    rfl
  · refine Kd.R_far (Kd.R_mono (Kd.R_bound hR) (fun k hk => ⟨hk.1, hk.2.1, hk.2.2.1⟩)) (fun k hk => ?_) v1
    show k ≠ g
    rcases hk.1 with h' | h'
    · exact (h4 k h').2.1
    · omega
  · refine Kd.R_step h3 (fun k hk hl => ?_)
    rw [Below.heap_setCell _ _ _ _ (show k ≠ (⟨g, 1, none⟩ : Addr).block from (h5 k hk).2)]
    exact hblk k hl (fun h' => (h4 k h').2.2 hk)
  · rintro k ⟨h' | h', hb, hl⟩
    · exact ⟨⟨hl, hb, .inl (h4 k h').1⟩, (h4 k h').2.1, (h4 k h').2.2⟩
    · exact ⟨⟨hl, hb, .inr h'⟩, by omega, fun hc => by have := (h.lt k (h5 k hc).1).1; omega⟩
  · intro k hk
    have := h.lt k (h5 k hk).1
    exact ⟨⟨by omega, this.2, .inl (h5 k hk).1⟩, (h5 k hk).2⟩
  · rintro k ⟨h1, h2, _⟩
    exact ⟨by simpa [World.setCell] using h1, h2⟩
  · exact ⟨by omega, (h.lt g h.own).2, .inl h.own⟩
set_option maxRecDepth 100000 in
set_option maxHeartbeats 4000000 in
theorem send_any (w : World) (base g : Nat) (S : Nat → Prop) (e : E) (h : EndAt 77 w base g S e) (hq : e.sent.length ≤ 64) (A : Option Addr) (n c : Nat) (l : List Int) (hl : l.length = n) (hC : Kd.C (Kd.int .u8) w A n l) (hc : n ≤ c) (hn : n ≤ 140737488351232) :
    Calls Tryd.prog 19 #[.pointer (some ⟨g, 0, none⟩), .slice A n c] w fun r w' => r = .returned (.bool (sendOk e l)) ∧ EndStep 77 w w' base g S (sendE e l) := by
  obtain ⟨vs, vc, Ss, Sc, h1, h2, h3, h4, h5⟩ := h.row
  obtain ⟨As, cs, rfl, hcs, hCs⟩ := Kd.R_reads h2
  have hlt := h.glt
  have hbase : base ≤ w.heap.size := by have := h.lt g h.own; omega
  obtain ⟨c0, c1, c2, c3, f0, f1, f2, f3⟩ := cells4 h1
  have HE := Lib.hid h
  have H1 := Lib.hid h1
  have H2 := Lib.hid h2
  have H3 := Lib.hid h3
  have H45 := Lib.hid (And.intro h4 h5)
  have HC := Lib.hid hC
  have HL := Lib.hid hl
  have H0 : Hid (EndStep 77 w w base g S e) := Lib.hid ⟨S, h, fun _ hk => .inl hk, Turns.refl _ _⟩
  obtain ⟨m, hm⟩ : ∃ m, m = e.sent.length := ⟨_, rfl⟩
  rw [← hm] at c1 hq
  have HM := Lib.hid hm
  clear h h1 h2 h3 h4 h5 hC hl hcs hCs hm c0 c2 c3 f0 f2 f3
  go_enter Tryd.func19, Tryd.ntmps19
  by_cases hbig : 32768 < n
  · have hb' : (32768 : Int) < (n : Int) := by omega
    have hno : sendOk e l = false := by unfold sendOk; rw [HL.out]; exact decide_eq_false (by omega)
    have HN := Lib.hid hno
    clear hno
    go_wp2_with fail
    go_ret
    unfold sendE
    rw [HN.out, if_neg (by simp)]
    exact ⟨by simp, H0.out⟩
  · have hb' : ¬ (32768 : Int) < (n : Int) := by omega
    by_cases hful : m = 64
    · have hm' : ((m : Int) == 64) = true := by rw [hful]; rfl
      have hno : sendOk e l = false := by unfold sendOk; exact decide_eq_false (by have := HM.out; omega)
      have HN := Lib.hid hno
      clear hno hful
      go_wp2_with fail
      go_ret
      unfold sendE
      rw [HN.out, if_neg (by simp)]
      exact ⟨by simp, H0.out⟩
    · have hm' : ((m : Int) == 64) = false := by rw [beq_eq_false_iff_ne]; omega
      have hyes : sendOk e l = true := by unfold sendOk; rw [HL.out]; exact decide_eq_true (by have := HM.out; omega)
      have HY := Lib.hid hyes
      clear hyes hful
      go_upto_region 3 with (fail)
      refine start_ (S := fun w' => Below w.heap.size w w' ∧ w'.cell? ⟨g, 1, none⟩ = some (.slice As m cs)) (ds := [8, 9, 10, 11]) (n := 12) #[false, false, false, false, false, false, false, false, false, false, false, false] rfl rfl rfl ?hS0 (fun hHeld => ?hrun)
      case hS0 => exact ⟨(Below.refl _ _).drew, by first | exact c1 | (rw [HM.out] at *; exact c1)⟩
      case hrun =>
        refine pure_ (i := 0) (N := some 16) (v := ?_) (a' := ?_) #[true, false, false, false, false, false, false, false, false, false, false, false] rfl rfl (by kernel_rfl) (fun _ _ _ h => h) (Or.inl ⟨by rfl, ?_⟩) ?_ ?_
        rotate_left
        · intro w'
          go_simp
          first | done | with_reducible rfl
        rotate_left
        · simp only [Act.put, List.setIfInBounds_toArray, List.set_cons_zero, List.set_cons_succ, i64_w, i32_w]
          rfl
        refine pure_ (i := 1) (N := some 17) (v := ?_) (a' := ?_) #[true, true, false, false, false, false, false, false, false, false, false, false] rfl rfl (by kernel_rfl) (fun _ _ _ h => h) (Or.inl ⟨by rfl, ?_⟩) ?_ ?_
        rotate_left
        · intro w'
          go_simp
          first | done | with_reducible rfl
        rotate_left
        · simp only [Act.put, List.setIfInBounds_toArray, List.set_cons_zero, List.set_cons_succ, i64_w, i32_w]
          rfl
        refine pure_ (i := 2) (N := some 18) (v := ?_) (a' := ?_) #[true, true, true, false, false, false, false, false, false, false, false, false] rfl rfl (by kernel_rfl) (fun _ _ _ h => h) (Or.inl ⟨by rfl, ?_⟩) ?_ ?_
        rotate_left
        · intro w'
          go_simp
          first | done | with_reducible rfl
        rotate_left
        · simp only [Act.put, List.setIfInBounds_toArray, List.set_cons_zero, List.set_cons_succ, i64_w, i32_w]
          rfl
        refine pure_ (i := 3) (N := some 19) (v := ?_) (a' := ?_) #[true, true, true, true, false, false, false, false, false, false, false, false] rfl rfl (by kernel_rfl) (fun _ _ _ h => h) (Or.inl ⟨by rfl, ?_⟩) ?_ ?_
        rotate_left
        · intro w'
          go_simp
          first | done | with_reducible rfl
        rotate_left
        · simp only [Act.put, List.setIfInBounds_toArray, List.set_cons_zero, List.set_cons_succ, i64_w, i32_w]
          rfl
        refine take_ (i := 4) (N := some 20) (v := ?_) (a' := ?_) #[true, true, true, true, true, false, false, false, false, false, false, false] rfl rfl (by kernel_rfl) (fun _ _ _ h => h) (Or.inl ⟨by rfl, ?_⟩) hHeld ?_ ?_
        rotate_left
        · rintro w' ⟨hbe, hca⟩
          go_simp
          first | done | with_reducible rfl
        rotate_left
        · simp only [Act.put, List.setIfInBounds_toArray, List.set_cons_zero, List.set_cons_succ, i64_w, i32_w]
          rfl
        refine pure_ (i := 5) (N := some 21) (v := ?_) (a' := ?_) #[true, true, true, true, true, true, false, false, false, false, false, false] rfl rfl (by kernel_rfl) (fun _ _ _ h => h) (Or.inl ⟨by rfl, ?_⟩) ?_ ?_
        rotate_left
        · intro w'
          go_simp
          first | done | with_reducible rfl
        rotate_left
        · simp only [Act.put, List.setIfInBounds_toArray, List.set_cons_zero, List.set_cons_succ, i64_w, i32_w]
          rfl
        refine one_ (i := 6) (N := some 22) #[true, true, true, true, true, true, true, false, false, false, false, false] rfl rfl (by kernel_rfl) (by decide) (fun K hK => ?_)
        refine goes_ Tryd.func39 (by kernel_rfl) rfl #[.slice A n c] (by rfl) rfl rfl (by (try simp only [List.map_toArray, List.map_cons, List.map_nil]); first | done | rfl) ?_
        have hcl := clone_any A c l w.drew (by rw [HL.out]; exact Kd.C_below HC.out ((Below.refl _ _).drew)) (by rw [HL.out]; exact hc) (by rw [HL.out]; exact hn)
        rw [HL.out] at hcl
        refine hcl.mono ?_
        rintro r w9 ⟨v, rfl, hR, hB⟩
        have HR9 := Lib.hid hR
        have HB9 := Lib.hid (show Below w.heap.size w w9 from ((Below.refl _ _).drew).trans hB)
        have hca9 := (hB.cell (p := ⟨g, 1, none⟩) hlt).trans hHeld.2
        obtain ⟨A9, c9, rfl⟩ := Kd.R_slice hR
        clear hR hB hcl hHeld
        refine ⟨_, rfl, ?_⟩
        refine hK.out _ _ ⟨HB9.out, hca9⟩ (fun hHeld1 => ?_)
        clear hK K
        refine norm_ (a' := ?_) ?_ ?_
        rotate_left
        · show Act.put _ (some 22) _ = _
          simp only [Act.put, List.setIfInBounds_toArray, List.set_cons_zero, List.set_cons_succ, i64_w, i32_w]
          rfl
        refine one_ (i := 7) (N := some 23) #[true, true, true, true, true, true, true, true, false, false, false, false] rfl rfl (by kernel_rfl) (by decide) (fun K hK => ?_)
        refine value_ (by rfl) rfl (by go_simp; first | rfl | exact ⟨rfl, rfl⟩) ?_
        refine hK.out _ _ ⟨HB9.out.alloc HB9.out.size _, (((Below.refl w9.heap.size w9).alloc (Nat.le_refl _) _).cell (p := ⟨g, 1, none⟩) (by have := HB9.out.size; show g < _; omega)).trans hca9⟩ (fun hHeld2 => ?_)
        clear hK K
        refine norm_ (a' := ?_) ?_ ?_
        rotate_left
        · show Act.put _ (some 23) _ = _
          simp only [Act.put, List.setIfInBounds_toArray, List.set_cons_zero, List.set_cons_succ, i64_w, i32_w]
          rfl
        refine tail_list 8 (t := [8, 9, 10, 11]) (fuel := 0) rfl rfl rfl (by kernel_rfl) (by decide) ?_
        have h2 := H2.out
        have h1 := H1.out
        rw [← HM.out] at h2 h1
        refine Kd.R_append kT (w0 := w9) (W := w9) base rfl _ _ 45 22 (.slice none 0 0) 24 rfl Tryd.underlying45 infoT rfl (by decide) (by decide) (.slice As m cs) e.sent l [.slice A9 l.length c9] (fun k => Ss k ∨ w.heap.size ≤ k) (fun k => w.heap.size ≤ k) rfl rfl ?hp ?hokp ?hfresh ?HO ?HB ?hb2 ?hl2 ?hk2
        case hp => exact ⟨_, rfl, Kd.R_lower (Kd.R_mono (Kd.R_bound HR9.out) (fun k hk => hk.2.1)) hbase⟩
        case hokp =>
          intro k hk
          refine ⟨.inr hk, fun e' => ?_⟩
          have hs := (HE.out.lt k (H45.out.1 k (own_ok h2 k e'.symm)).1).1
          have hk2 : w.heap.size ≤ k := hk
          omega
        case hfresh => exact fun k hk => .inr (by have := HB9.out.size; omega)
        case HO => exact Kd.R_below (Kd.R_mono h2 (fun k hk => .inl hk)) HB9.out
        case HB => exact Below.refl _ _
        case hb2 => have := HB9.out.size; omega
        case hl2 => rw [← HM.out]; omega
        case hk2 =>
          intro v1 w1 hR1 _ hg1 _
          obtain ⟨hc1, hst⟩ := EndAt.grow (l := l) HE.out h1 H3.out H45.out.1 H45.out.2 (own_ok h2) HB9.out hR1 hg1
          obtain ⟨A1, c1', rfl⟩ := Kd.R_slice hR1
          obtain ⟨_, d1, _, _, _, q1, _, _⟩ := cells4 hc1
          have hl1 : g < w1.heap.size := blk_lt hc1
          have HST := Lib.hid hst
          clear hR1 hg1 hc1 hst h1 h2 c1 hHeld1 hHeld2 hca9
          go_wp2_with fail
          go_ret
          unfold sendE
          rw [HY.out, if_pos rfl]
          have hst := HST.out
          rw [List.length_append, List.length_singleton] at hst
          exact ⟨rfl, hst⟩
end Go.Proofs.YthfgkkpibkkiaaaDoor
