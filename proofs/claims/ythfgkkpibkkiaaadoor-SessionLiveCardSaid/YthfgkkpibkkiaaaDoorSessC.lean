/- Calls at an end: Take. -/
import Derived.Test.YthfgkkpibkkiaaaDoorSessB
import Derived.Test.YthfgkkpibkkiaaaDoorWMore
set_option linter.unusedVariables false
set_option linter.unusedSimpArgs false
namespace Go.Proofs.YthfgkkpibkkiaaaDoor
attribute [local go_sem] Go.Proofs.YthfgkkpibkkiaaaDoorW.PrintMore.max_two Go.Proofs.YthfgkkpibkkiaaaDoorW.PrintMore.max2_int
open Go.RowKit Go.Proofs.YthfgkkpibkkiaaaDoorW.PrintWords Go.Proofs.YthfgkkpibkkiaaaDoorW.PrintLast Go.Proofs.YthfgkkpibkkiaaaDoor.PSessionPlays

def okF (x : S24) : Bool := okEp x.f0 && okN x.f1 && okN x.f3 && decide (x.f4.length ≤ 32768) && (x.f2 || (decide (x.f3 = 0) && decide (x.f4.length = 0)))
theorem within_ep (a : Int) : session_within_int64.f a 1099511627776 = some (okEp a) := by
  unfold session_within_int64.f okEp
  by_cases h : a ≥ 0
  · rw [if_pos h]
    congr 1
    rw [decide_eq_decide]
    omega
  · rw [if_neg h]
    congr 1
    symm
    rw [decide_eq_false_iff_not]
    omega
theorem within_n (a : Int) : session_within_int.f a 1073741824 = some (okN a) := by
  unfold session_within_int.f okN
  by_cases h : a ≥ 0
  · rw [if_pos h]
    congr 1
    rw [decide_eq_decide]
    omega
  · rw [if_neg h]
    congr 1
    symm
    rw [decide_eq_false_iff_not]
    omega
theorem right_f (x : S24) : session_right.f x.f0 x.f1 x.f2 x.f3 x.f4 = some (okF x) := by
  unfold session_right.f okF
  rw [within_ep, within_n, within_n]
  simp only [Option.bind_some]
  cases okEp x.f0 <;> cases okN x.f1 <;> cases okN x.f3 <;> simp
  by_cases h : x.f4.length ≤ 32768
  · rw [if_pos (by omega)]
    cases x.f2 <;> simp [h]
    by_cases h3 : x.f3 = 0
    · rw [if_pos h3]
      simp [h3]
      rw [Bool.eq_iff_iff, beq_iff_eq, decide_eq_true_iff]
      exact ⟨fun h => List.eq_nil_of_length_eq_zero (by omega), fun h => by rw [h]; rfl⟩
    · rw [if_neg h3]
      simp [h3]
  · rw [if_neg (by omega)]
    simp [h]
theorem fright_any (x : S24) (A : Option Addr) (n c : Nat) (w : World) (hl : x.f4.length = n) (hC : Kd.C (Kd.int .u8) w A n x.f4) (hc : n ≤ c) :
    Calls Tryd.prog 34 #[.agg #[.int .i64 x.f0, .int .i64 x.f1, .bool x.f2, .int .i64 x.f3, .slice A n c]] w fun r w' => r = .returned (.bool (okF x)) ∧ Below w.heap.size w w' := by
  subst hl
  exact session_right.calls x.f0 x.f1 x.f2 x.f3 A c x.f4 (okF x) w hC hc (right_f x)
def takeOk (e : E) (x : S24) : Bool := okF x && decide (x.f0 = e.ep) && decide (x.f1 ≤ (e.sent.length : Int))
def takeE (e : E) (x : S24) : E :=
  if takeOk e x = true then { e with there := max e.there x.f1.toNat, came := if x.f2 = true ∧ x.f3 = (e.came.length : Int) then e.came ++ [x.f4] else e.came } else e
section
variable {T : TypeId} {w w1 w2 w9 : World} {base g : Nat} {S S' : Nat → Prop} {e e1 e2 : E}
theorem EndStep.of_below (h : EndAt T w base g S e) (k : Below w.heap.size w w1) : EndStep T w w1 base g S e := ⟨S, h.below k, fun _ hk => .inl hk, Turns.of_below k S⟩
theorem EndStep.trans (h : EndStep T w w1 base g S e1) (k : ∀ S', EndAt T w1 base g S' e1 → EndStep T w1 w2 base g S' e2) : EndStep T w w2 base g S e2 := by
  obtain ⟨S1, h1, h2, h3⟩ := h
  obtain ⟨S2, k1, k2, k3⟩ := k S1 h1
  refine ⟨S2, k1, fun i hi => ?_, h3.trans k3 h2⟩
  rcases k2 i hi with h' | h'
  · exact h2 i h'
  · exact .inr (by have := h3.size; omega)
theorem EndAt.setThere (h : EndAt T w base g S e) (t : Nat) : EndStep T w (w.setCell ⟨g, 2, none⟩ (.int .i64 (t : Int))) base g S { e with there := t } := by
  obtain ⟨vs, vc, Ss, Sc, h1, h2, h3, h4, h5⟩ := h.row
  refine ⟨S, ⟨⟨vs, vc, Ss, Sc, ?_, Kd.R_far h2 (fun k hk => (h4 k hk).2.1) _, Kd.R_far h3 (fun k hk => (h5 k hk).2) _, h4, h5⟩, fun k hk => ⟨by simpa [World.setCell] using (h.lt k hk).1, (h.lt k hk).2⟩, h.own⟩, fun k hk => .inl hk, (Turns.refl S w).set (.inl h.own) _⟩
  unfold EndCells
  rw [blk_set h1 2]
  rfl
theorem EndAt.growC {l : List Int} {vs v1 : Value} {vc : Value} {Ss Sc : Nat → Prop}
    (h : EndAt T w base g S e) (h1 : EndCells T w g e vs vc) (h2 : kT.R 22 w base Ss vs e.sent) (h4 : ∀ k, Ss k → S k ∧ k ≠ g ∧ ¬ Sc k) (h5 : ∀ k, Sc k → S k ∧ k ≠ g) (hv : ∀ k, vc.ownBlock = some k → Sc k)
    (hB : Below w.heap.size w w9) (hR : kT.R 22 w1 base (fun k => Sc k ∨ w.heap.size ≤ k) v1 (e.came ++ [l])) (hg : w9.grownBy w1 vc.ownBlock) :
    EndCells T w1 g e vs vc ∧ EndStep T w (w1.setCell ⟨g, 3, none⟩ v1) base g S { e with came := e.came ++ [l] } := by
  have hgl := h.glt
  have hz9 := hB.size
  have hz1 := hg.size
  have hbase : base ≤ w.heap.size := by have := h.lt g h.own; omega
  have hblk : ∀ k, k < w.heap.size → ¬ Sc k → w1.heap[k]? = w.heap[k]? := fun k hk hn => (hg.block k (by omega) (fun e' => hn (hv k e'.symm))).trans (hB.block k hk)
  have hc1 : EndCells T w1 g e vs vc := (hblk g hgl (fun h' => (h5 g h').2 rfl)).trans h1
  have hT : Turns S w (w1.setCell ⟨g, 3, none⟩ v1) := ((Turns.of_below hB S).grown hg (fun i e' => .inl (h5 i (hv i e')).1)).set (.inl h.own) v1
  refine ⟨hc1, fun k => k < w1.heap.size ∧ base ≤ k ∧ (S k ∨ w.heap.size ≤ k), ⟨⟨vs, v1, Ss, fun k => (Sc k ∨ w.heap.size ≤ k) ∧ base ≤ k ∧ k < w1.heap.size, ?_, ?_, ?_, ?_, ?_⟩, ?_, ?_⟩, fun k hk => hk.2.2, hT⟩
  · unfold EndCells
    rw [blk_set hc1 3 v1]
    rfl
  · refine Kd.R_step h2 (fun k hk hl => ?_)
    rw [Below.heap_setCell _ _ _ _ (show k ≠ (⟨g, 3, none⟩ : Addr).block from (h4 k hk).2.1)]
    exact hblk k hl (h4 k hk).2.2
  · refine Kd.R_far (Kd.R_mono (Kd.R_bound hR) (fun k hk => ⟨hk.1, hk.2.1, hk.2.2.1⟩)) (fun k hk => ?_) v1
    show k ≠ g
    rcases hk.1 with h' | h'
    · exact (h5 k h').2
    · omega
  · intro k hk
    have := h.lt k (h4 k hk).1
    refine ⟨⟨by omega, this.2, .inl (h4 k hk).1⟩, (h4 k hk).2.1, fun hc => ?_⟩
    rcases hc.1 with h' | h'
    · exact (h4 k hk).2.2 h'
    · omega
  · rintro k ⟨h' | h', hb, hl⟩
    · exact ⟨⟨hl, hb, .inl (h5 k h').1⟩, (h5 k h').2⟩
    · exact ⟨⟨hl, hb, .inr h'⟩, by omega⟩
  · rintro k ⟨h1, h2, _⟩
    exact ⟨by simpa [World.setCell] using h1, h2⟩
  · exact ⟨by omega, (h.lt g h.own).2, .inl h.own⟩
end
theorem cells5 {W : World} {g : Nat} {a b c d f : Value} {t : TypeId} (h : W.heap[g]? = some (.cells #[a, b, c, d, f] t (0, 0))) :
    W.cell? ⟨g, 0, none⟩ = some a ∧ W.cell? ⟨g, 1, none⟩ = some b ∧ W.cell? ⟨g, 2, none⟩ = some c ∧ W.cell? ⟨g, 3, none⟩ = some d ∧ W.cell? ⟨g, 4, none⟩ = some f :=
  ⟨by simpa using blk_cell h 0, by simpa using blk_cell h 1, by simpa using blk_cell h 2, by simpa using blk_cell h 3, by simpa using blk_cell h 4⟩
theorem EndAt.put {T : TypeId} {w w9 : World} {base g : Nat} {S : Nat → Prop} {e : E} (h : EndAt T w base g S e) {vs vc : Value} (h1 : EndCells T w g e vs vc) (t : Nat) (hT : Turns (fun k => k = g) w w9) (h9 : EndCells T w9 g { e with there := t } vs vc) : EndStep T w w9 base g S { e with there := t } := by
  obtain ⟨vs', vc', Ss, Sc, h1', h2, h3, h4, h5⟩ := h.row
  have e1 := h1'.symm.trans h1
  simp at e1
  obtain ⟨rfl, rfl⟩ := e1
  exact ⟨S, ⟨⟨vs', vc', Ss, Sc, h9, Kd.R_step h2 (fun k hk hl => hT.block k hl (h4 k hk).2.1), Kd.R_step h3 (fun k hk hl => hT.block k hl (h5 k hk).2), h4, h5⟩, fun k hk => ⟨Nat.lt_of_lt_of_le (h.lt k hk).1 hT.size, (h.lt k hk).2⟩, h.own⟩, fun k hk => .inl hk, hT.mono (fun k hk => .inl (by rw [hk]; exact h.own))⟩
theorem EndStep.then_ {T : TypeId} {w w1 w2 : World} {base g : Nat} {S S1 : Nat → Prop} {e2 : E} (h2 : ∀ k, S1 k → S k ∨ w.heap.size ≤ k) (h3 : Turns S w w1) (k : EndStep T w1 w2 base g S1 e2) : EndStep T w w2 base g S e2 := by
  obtain ⟨S2, k1, k2, k3⟩ := k
  refine ⟨S2, k1, fun i hi => ?_, h3.trans k3 h2⟩
  rcases k2 i hi with h' | h'
  · exact h2 i h'
  · exact .inr (by have := h3.size; omega)
/-- What lies while Take goes on: the frame in its box, the end, and their cells one by one. -/
def TkS (w0 : World) (T : TypeId) (g b : Nat) (x : S24) (v4 : Value) (e : E) (sv cv : Value) (w : World) : Prop :=
  (Turns (fun k => k = g) w0 w ∧ w.heap[b]? = some (.cells #[.int .i64 x.f0, .int .i64 x.f1, .bool x.f2, .int .i64 x.f3, v4] 24 (0, 0)) ∧ EndCells T w g e sv cv) ∧
  (w.cell? ⟨b, 0, none⟩ = some (.int .i64 x.f0) ∧ w.cell? ⟨b, 1, none⟩ = some (.int .i64 x.f1) ∧ w.cell? ⟨b, 2, none⟩ = some (.bool x.f2) ∧ w.cell? ⟨b, 3, none⟩ = some (.int .i64 x.f3) ∧ w.cell? ⟨b, 4, none⟩ = some v4) ∧
  w.cell? ⟨g, 0, none⟩ = some (.int .i64 e.ep) ∧ w.cell? ⟨g, 1, none⟩ = some sv ∧ w.cell? ⟨g, 2, none⟩ = some (.int .i64 (e.there : Int)) ∧ w.cell? ⟨g, 3, none⟩ = some cv
section
variable {w0 w w' : World} {T : TypeId} {g b : Nat} {x : S24} {v4 : Value} {e : E} {sv cv : Value}
theorem TkS.mk (h1 : Turns (fun k => k = g) w0 w) (h2 : w.heap[b]? = some (.cells #[.int .i64 x.f0, .int .i64 x.f1, .bool x.f2, .int .i64 x.f3, v4] 24 (0, 0))) (h3 : EndCells T w g e sv cv) : TkS w0 T g b x v4 e sv cv w := by
  obtain ⟨c0, c1, c2, c3, _⟩ := cells4 h3
  exact ⟨⟨h1, h2, h3⟩, cells5 h2, c0, c1, c2, c3⟩
theorem TkS.step (h : TkS w0 T g b x v4 e sv cv w) (k : Below w.heap.size w w') : TkS w0 T g b x v4 e sv cv w' := by
  obtain ⟨⟨h1, h2, h3⟩, _⟩ := h
  exact TkS.mk (h1.below k) (blk_below h2 k) (blk_below h3 k)
theorem TkS.set (h : TkS w0 T g b x v4 e sv cv w) (hb : b ≠ g) (t : Nat) : TkS w0 T g b x v4 { e with there := t } sv cv (w.setCell ⟨g, 2, none⟩ (.int .i64 (t : Int))) := by
  obtain ⟨⟨h1, h2, h3⟩, _⟩ := h
  refine TkS.mk (h1.set (.inl rfl) _) ((Below.heap_setCell _ _ _ _ hb).trans h2) ?_
  unfold EndCells
  rw [blk_set h3 2]
  rfl
theorem TkS.drew (h : TkS w0 T g b x v4 e sv cv w) : TkS w0 T g b x v4 e sv cv w.drew := h.step ((Below.refl _ _).drew)
end
theorem bytes_not_end {w : World} {A : Option Addr} {n : Nat} {l : List Int} {T : TypeId} {g : Nat} {e : E} {A1 A2 : Option Addr} {n1 c1 n2 c2 : Nat} (h : Kd.C (Kd.int .u8) w A n l) (hE : EndCells T w g e (.slice A1 n1 c1) (.slice A2 n2 c2)) : ∀ ad, A = some ad → 0 < n → ad.block ≠ g := by
  intro ad e0 hn hg
  obtain ⟨ad', c, e1, _, hK, hc⟩ := Kd.C_get h (0 : Int) 0 (Int.le_refl 0) (by omega)
  obtain rfl : ad = ad' := Option.some.inj (e0.symm.trans e1)
  have hK' : c = [.int .u8 (l.getD (Int.toNat 0) 0)] := hK
  subst hK'
  have h0 : w.cell? ad = some (.int .u8 (l.getD (Int.toNat 0) 0)) := hc 0 _ rfl
  obtain ⟨b, o, sp⟩ := ad
  simp only at hg
  subst hg
  have hE' : w.heap[b]? = some (.cells #[.int .i64 e.ep, .slice A1 n1 c1, .int .i64 (e.there : Int), .slice A2 n2 c2] T (0, 0)) := hE
  cases sp with
  | none =>
    simp only [World.cell?, hE'] at h0
    match o, h0 with
    | 0, h0 => simp at h0
    | 1, h0 => simp at h0
    | 2, h0 => simp at h0
    | 3, h0 => simp at h0
    | o + 4, h0 => simp at h0
  | some k => simp [World.cell?, hE'] at h0
theorem C_turns {w w' : World} {A : Option Addr} {n : Nat} {l : List Int} {T : TypeId} {g : Nat} {e : E} {A1 A2 : Option Addr} {n1 c1 n2 c2 : Nat} (h : Kd.C (Kd.int .u8) w A n l) (hE : EndCells T w g e (.slice A1 n1 c1) (.slice A2 n2 c2)) (hT : Turns (fun k => k = g) w w') : Kd.C (Kd.int .u8) w' A n l :=
  Kd.C_keep (0 : Int) h ⟨hT.size, fun i hi hn _ => hT.block i hi hn⟩ (bytes_not_end h hE)
set_option maxRecDepth 100000 in
set_option maxHeartbeats 8000000 in
theorem take_any (w : World) (base g : Nat) (S : Nat → Prop) (e : E) (h : EndAt 77 w base g S e) (hq : e.came.length ≤ 1000000) (hq2 : e.sent.length ≤ 1000000) (x : S24) (A : Option Addr) (n c : Nat) (hl : x.f4.length = n) (hC : Kd.C (Kd.int .u8) w A n x.f4) (hc : n ≤ c) (hn : n ≤ 140737488351232) :
    Calls Tryd.prog 24 #[.pointer (some ⟨g, 0, none⟩), .agg #[.int .i64 x.f0, .int .i64 x.f1, .bool x.f2, .int .i64 x.f3, .slice A n c]] w fun r w' => r = .returned (.bool (takeOk e x)) ∧ EndStep 77 w w' base g S (takeE e x) := by
  have HE := Lib.hid h
  have HC := Lib.hid hC
  have HL := Lib.hid hl
  have HR := Lib.hid (fun w' h' => fright_any x A n c w' hl h' hc)
  obtain ⟨vs, vc, Ss, Sc, h1, h2, h3, h4, h5⟩ := h.row
  obtain ⟨As, cs, rfl, _, _⟩ := Kd.R_reads h2
  obtain ⟨Ac, cc, rfl, _, _⟩ := Kd.R_reads h3
  have hlt := h.glt
  obtain ⟨m, hm⟩ : ∃ m, m = e.sent.length := ⟨_, rfl⟩
  obtain ⟨mc, hmc⟩ : ∃ m, m = e.came.length := ⟨_, rfl⟩
  rw [← hm] at h1 hq2
  rw [← hmc] at h1 hq
  have HM := Lib.hid hm
  have HMC := Lib.hid hmc
  obtain ⟨w1, hw1⟩ : ∃ w1, w1 = w.alloc (.cells #[.int .i64 x.f0, .int .i64 x.f1, .bool x.f2, .int .i64 x.f3, .slice A n c] 24) := ⟨_, rfl⟩
  have hB1 : Below w.heap.size w w1 := by rw [hw1]; exact (Below.refl _ _).alloc (Nat.le_refl _) _
  have hbx : w1.heap[w.heap.size]? = some (.cells #[.int .i64 x.f0, .int .i64 x.f1, .bool x.f2, .int .i64 x.f3, .slice A n c] 24 (0, 0)) := by rw [hw1]; exact heap_alloc_new w _
  have HB1 := Lib.hid hB1
  have HT1 := Lib.hid (TkS.mk (Turns.of_below hB1 (fun k => k = g)) hbx (blk_below h1 hB1))
  have HW1 := Lib.hid hw1
  have H1 := Lib.hid h1
  clear h hC hl h1 h2 h3 h4 h5 hbx hB1 hm hmc hw1
  go_enter Tryd.func24, Tryd.ntmps24
  go_upto_region 1 with (fail)
  rw [← HW1.out]
  obtain ⟨q, hqq⟩ : ∃ q, q = okF x := ⟨_, rfl⟩
  have HQ := Lib.hid hqq
  clear hqq
  cases q with
  | false =>
    have HNO := Lib.hid (show takeOk e x = false from by unfold takeOk; rw [← HQ.out]; rfl)
    refine start_ (S := TkS w 77 g w.heap.size x (.slice A n c) e (.slice As m cs) (.slice Ac mc cc)) (ds := [21]) (n := 22) #[false, false, false, false, false, false, false, false, false, false, false, false, false, false, false, false, false, false, false, false, false, false] rfl rfl rfl ?hS0 (fun hHeld => ?hrun)
    case hS0 => exact HT1.out.drew
    case hrun =>
      refine take_ (i := 0) (N := some 5) (v := ?_) (a' := ?_) #[true, false, false, false, false, false, false, false, false, false, false, false, false, false, false, false, false, false, false, false, false, false] rfl rfl (by kernel_rfl) (fun _ _ _ h => h) (Or.inl ⟨by rfl, ?_⟩) hHeld ?_ ?_
      rotate_left
      · rintro w' ⟨_, ⟨s0, s1, s2, s3, s4⟩, s5, s6, s7, s8⟩
        go_simp
        first | done | with_reducible rfl
      rotate_left
      · simp only [Act.put, List.setIfInBounds_toArray, List.set_cons_zero, List.set_cons_succ, i64_w, i32_w]
        rfl
      refine one_ (i := 1) (N := some 6) #[true, true, false, false, false, false, false, false, false, false, false, false, false, false, false, false, false, false, false, false, false, false] rfl rfl (by kernel_rfl) (by decide) (fun K hK => ?_)
      refine goes_ Tryd.func34 (by kernel_rfl) rfl #[.agg #[.int .i64 x.f0, .int .i64 x.f1, .bool x.f2, .int .i64 x.f3, .slice A n c]] (by rfl) rfl rfl (by (try simp only [List.map_toArray, List.map_cons, List.map_nil]); first | done | rfl) ?_
      refine (HR.out w1.drew (Kd.C_below (Kd.C_below HC.out HB1.out) ((Below.refl _ _).drew))).mono ?_
      rintro r w9 ⟨rfl, hB⟩
      rw [← HQ.out]
      refine ⟨_, rfl, ?_⟩
      refine hK.out _ _ (hHeld.step hB) (fun hHeld1 => ?_)
      clear hK K
      refine norm_ (a' := ?_) ?_ ?_
      rotate_left
      · show Act.put _ (some 6) _ = _
        simp only [Act.put, List.setIfInBounds_toArray, List.set_cons_zero, List.set_cons_succ, i64_w, i32_w]
        rfl
      refine pure_ (i := 2) (N := some 7) (v := ?_) (a' := ?_) #[true, true, true, false, false, false, false, false, false, false, false, false, false, false, false, false, false, false, false, false, false, false] rfl rfl (by kernel_rfl) (fun _ _ _ h => h) (Or.inl ⟨by rfl, ?_⟩) ?_ ?_
      rotate_left
      · intro w'
        go_simp
        first | done | with_reducible rfl
      rotate_left
      · simp only [Act.put, List.setIfInBounds_toArray, List.set_cons_zero, List.set_cons_succ, i64_w, i32_w]
        rfl
      refine pure_ (i := 3) (N := some 8) (v := ?_) (a' := ?_) #[true, true, true, true, false, false, false, false, false, false, false, false, false, false, false, false, false, false, false, false, false, false] rfl rfl (by kernel_rfl) (fun _ _ _ h => h) (Or.inl ⟨by rfl, ?_⟩) ?_ ?_
      rotate_left
      · intro w'
        go_simp
        first | done | with_reducible rfl
      rotate_left
      · simp only [Act.put, List.setIfInBounds_toArray, List.set_cons_zero, List.set_cons_succ, i64_w, i32_w]
        rfl
      refine pure_ (i := 4) (N := some 9) (v := undef) (a' := ?_) #[true, true, true, true, true, false, false, false, false, false, false, false, false, false, false, false, false, false, false, false, false, false] rfl rfl (by kernel_rfl) (fun _ _ _ h => h) (Or.inr ⟨by rfl, rfl⟩) ?_ ?_
      rotate_left
      · simp only [Act.put, List.setIfInBounds_toArray, List.set_cons_zero, List.set_cons_succ, i64_w, i32_w]
        rfl
      refine pure_ (i := 5) (N := some 10) (v := undef) (a' := ?_) #[true, true, true, true, true, true, false, false, false, false, false, false, false, false, false, false, false, false, false, false, false, false] rfl rfl (by kernel_rfl) (fun _ _ _ h => h) (Or.inr ⟨by rfl, rfl⟩) ?_ ?_
      rotate_left
      · simp only [Act.put, List.setIfInBounds_toArray, List.set_cons_zero, List.set_cons_succ, i64_w, i32_w]
        rfl
      refine pure_ (i := 6) (N := some 11) (v := undef) (a' := ?_) #[true, true, true, true, true, true, true, false, false, false, false, false, false, false, false, false, false, false, false, false, false, false] rfl rfl (by kernel_rfl) (fun _ _ _ h => h) (Or.inr ⟨by rfl, rfl⟩) ?_ ?_
      rotate_left
      · simp only [Act.put, List.setIfInBounds_toArray, List.set_cons_zero, List.set_cons_succ, i64_w, i32_w]
        rfl
      refine pure_ (i := 7) (N := some 12) (v := undef) (a' := ?_) #[true, true, true, true, true, true, true, true, false, false, false, false, false, false, false, false, false, false, false, false, false, false] rfl rfl (by kernel_rfl) (fun _ _ _ h => h) (Or.inr ⟨by rfl, rfl⟩) ?_ ?_
      rotate_left
      · simp only [Act.put, List.setIfInBounds_toArray, List.set_cons_zero, List.set_cons_succ, i64_w, i32_w]
        rfl
      refine pure_ (i := 8) (N := some 13) (v := undef) (a' := ?_) #[true, true, true, true, true, true, true, true, true, false, false, false, false, false, false, false, false, false, false, false, false, false] rfl rfl (by kernel_rfl) (fun _ _ _ h => h) (Or.inr ⟨by rfl, rfl⟩) ?_ ?_
      rotate_left
      · simp only [Act.put, List.setIfInBounds_toArray, List.set_cons_zero, List.set_cons_succ, i64_w, i32_w]
        rfl
      refine pure_ (i := 9) (N := some 14) (v := undef) (a' := ?_) #[true, true, true, true, true, true, true, true, true, true, false, false, false, false, false, false, false, false, false, false, false, false] rfl rfl (by kernel_rfl) (fun _ _ _ h => h) (Or.inr ⟨by rfl, rfl⟩) ?_ ?_
      rotate_left
      · simp only [Act.put, List.setIfInBounds_toArray, List.set_cons_zero, List.set_cons_succ, i64_w, i32_w]
        rfl
      refine pure_ (i := 10) (N := some 15) (v := undef) (a' := ?_) #[true, true, true, true, true, true, true, true, true, true, true, false, false, false, false, false, false, false, false, false, false, false] rfl rfl (by kernel_rfl) (fun _ _ _ h => h) (Or.inr ⟨by rfl, rfl⟩) ?_ ?_
      rotate_left
      · simp only [Act.put, List.setIfInBounds_toArray, List.set_cons_zero, List.set_cons_succ, i64_w, i32_w]
        rfl
      refine pure_ (i := 11) (N := some 16) (v := ?_) (a' := ?_) #[true, true, true, true, true, true, true, true, true, true, true, true, false, false, false, false, false, false, false, false, false, false] rfl rfl (by kernel_rfl) (fun _ _ _ h => h) (Or.inl ⟨by rfl, ?_⟩) ?_ ?_
      rotate_left
      · intro w'
        go_simp
        first | done | with_reducible rfl
      rotate_left
      · simp only [Act.put, List.setIfInBounds_toArray, List.set_cons_zero, List.set_cons_succ, i64_w, i32_w]
        rfl
      refine pure_ (i := 12) (N := some 17) (v := ?_) (a' := ?_) #[true, true, true, true, true, true, true, true, true, true, true, true, true, false, false, false, false, false, false, false, false, false] rfl rfl (by kernel_rfl) (fun _ _ _ h => h) (Or.inl ⟨by rfl, ?_⟩) ?_ ?_
      rotate_left
      · intro w'
        go_simp
        first | done | with_reducible rfl
      rotate_left
      · simp only [Act.put, List.setIfInBounds_toArray, List.set_cons_zero, List.set_cons_succ, i64_w, i32_w]
        rfl
      refine pure_ (i := 13) (N := some 18) (v := undef) (a' := ?_) #[true, true, true, true, true, true, true, true, true, true, true, true, true, true, false, false, false, false, false, false, false, false] rfl rfl (by kernel_rfl) (fun _ _ _ h => h) (Or.inr ⟨by rfl, rfl⟩) ?_ ?_
      rotate_left
      · simp only [Act.put, List.setIfInBounds_toArray, List.set_cons_zero, List.set_cons_succ, i64_w, i32_w]
        rfl
      refine pure_ (i := 14) (N := some 19) (v := undef) (a' := ?_) #[true, true, true, true, true, true, true, true, true, true, true, true, true, true, true, false, false, false, false, false, false, false] rfl rfl (by kernel_rfl) (fun _ _ _ h => h) (Or.inr ⟨by rfl, rfl⟩) ?_ ?_
      rotate_left
      · simp only [Act.put, List.setIfInBounds_toArray, List.set_cons_zero, List.set_cons_succ, i64_w, i32_w]
        rfl
      refine pure_ (i := 15) (N := some 20) (v := undef) (a' := ?_) #[true, true, true, true, true, true, true, true, true, true, true, true, true, true, true, true, false, false, false, false, false, false] rfl rfl (by kernel_rfl) (fun _ _ _ h => h) (Or.inr ⟨by rfl, rfl⟩) ?_ ?_
      rotate_left
      · simp only [Act.put, List.setIfInBounds_toArray, List.set_cons_zero, List.set_cons_succ, i64_w, i32_w]
        rfl
      refine pure_ (i := 16) (N := some 21) (v := undef) (a' := ?_) #[true, true, true, true, true, true, true, true, true, true, true, true, true, true, true, true, true, false, false, false, false, false] rfl rfl (by kernel_rfl) (fun _ _ _ h => h) (Or.inr ⟨by rfl, rfl⟩) ?_ ?_
      rotate_left
      · simp only [Act.put, List.setIfInBounds_toArray, List.set_cons_zero, List.set_cons_succ, i64_w, i32_w]
        rfl
      refine pure_ (i := 17) (N := some 22) (v := undef) (a' := ?_) #[true, true, true, true, true, true, true, true, true, true, true, true, true, true, true, true, true, true, false, false, false, false] rfl rfl (by kernel_rfl) (fun _ _ _ h => h) (Or.inr ⟨by rfl, rfl⟩) ?_ ?_
      rotate_left
      · simp only [Act.put, List.setIfInBounds_toArray, List.set_cons_zero, List.set_cons_succ, i64_w, i32_w]
        rfl
      refine pure_ (i := 18) (N := some 23) (v := undef) (a' := ?_) #[true, true, true, true, true, true, true, true, true, true, true, true, true, true, true, true, true, true, true, false, false, false] rfl rfl (by kernel_rfl) (fun _ _ _ h => h) (Or.inr ⟨by rfl, rfl⟩) ?_ ?_
      rotate_left
      · simp only [Act.put, List.setIfInBounds_toArray, List.set_cons_zero, List.set_cons_succ, i64_w, i32_w]
        rfl
      refine pure_ (i := 19) (N := some 24) (v := undef) (a' := ?_) #[true, true, true, true, true, true, true, true, true, true, true, true, true, true, true, true, true, true, true, true, false, false] rfl rfl (by kernel_rfl) (fun _ _ _ h => h) (Or.inr ⟨by rfl, rfl⟩) ?_ ?_
      rotate_left
      · simp only [Act.put, List.setIfInBounds_toArray, List.set_cons_zero, List.set_cons_succ, i64_w, i32_w]
        rfl
      refine pure_ (i := 20) (N := some 25) (v := undef) (a' := ?_) #[true, true, true, true, true, true, true, true, true, true, true, true, true, true, true, true, true, true, true, true, true, false] rfl rfl (by kernel_rfl) (fun _ _ _ h => h) (Or.inr ⟨by rfl, rfl⟩) ?_ ?_
      rotate_left
      · simp only [Act.put, List.setIfInBounds_toArray, List.set_cons_zero, List.set_cons_succ, i64_w, i32_w]
        rfl
      refine tail_list 21 (t := [21]) (fuel := 0) rfl rfl rfl (by kernel_rfl) (by decide) ?_
      have HB9 := Lib.hid hHeld1
      go_wp2_with fail
      go_ret
      unfold takeE
      rw [HNO.out, if_neg (by simp)]
      refine ⟨by simp, ?_⟩
      exact HE.out.put H1.out e.there HB9.out.1.1 HB9.out.1.2.2
  | true =>
    by_cases hep : x.f0 = e.ep
    · have hep' : (x.f0 != e.ep) = false := by rw [bne_eq_false_iff_eq]; exact hep
      by_cases hack : x.f1 ≤ (m : Int)
      · have hack' : ¬ (m : Int) < x.f1 := by omega
        have HYES := Lib.hid (show takeOk e x = true from by unfold takeOk; rw [← HQ.out, decide_eq_true hep, ← HM.out, decide_eq_true hack]; rfl)
        have hx0 : 0 ≤ x.f1 := by
          have h := HQ.out.symm
          unfold okF okN at h
          simp at h
          omega
        clear hep
        refine start_ (S := TkS w 77 g w.heap.size x (.slice A n c) e (.slice As m cs) (.slice Ac mc cc)) (ds := [21]) (n := 22) #[false, false, false, false, false, false, false, false, false, false, false, false, false, false, false, false, false, false, false, false, false, false] rfl rfl rfl ?hS0 (fun hHeld => ?hrun)
        case hS0 => exact HT1.out.drew
        case hrun =>
          refine take_ (i := 0) (N := some 5) (v := ?_) (a' := ?_) #[true, false, false, false, false, false, false, false, false, false, false, false, false, false, false, false, false, false, false, false, false, false] rfl rfl (by kernel_rfl) (fun _ _ _ h => h) (Or.inl ⟨by rfl, ?_⟩) hHeld ?_ ?_
          rotate_left
          · rintro w' ⟨_, ⟨s0, s1, s2, s3, s4⟩, s5, s6, s7, s8⟩
            go_simp
            first | done | with_reducible rfl
          rotate_left
          · simp only [Act.put, List.setIfInBounds_toArray, List.set_cons_zero, List.set_cons_succ, i64_w, i32_w]
            rfl
          refine one_ (i := 1) (N := some 6) #[true, true, false, false, false, false, false, false, false, false, false, false, false, false, false, false, false, false, false, false, false, false] rfl rfl (by kernel_rfl) (by decide) (fun K hK => ?_)
          refine goes_ Tryd.func34 (by kernel_rfl) rfl #[.agg #[.int .i64 x.f0, .int .i64 x.f1, .bool x.f2, .int .i64 x.f3, .slice A n c]] (by rfl) rfl rfl (by (try simp only [List.map_toArray, List.map_cons, List.map_nil]); first | done | rfl) ?_
          refine (HR.out w1.drew (Kd.C_below (Kd.C_below HC.out HB1.out) ((Below.refl _ _).drew))).mono ?_
          rintro r w9 ⟨rfl, hB⟩
          rw [← HQ.out]
          refine ⟨_, rfl, ?_⟩
          refine hK.out _ _ (hHeld.step hB) (fun hHeld1 => ?_)
          clear hK K
          refine norm_ (a' := ?_) ?_ ?_
          rotate_left
          · show Act.put _ (some 6) _ = _
            simp only [Act.put, List.setIfInBounds_toArray, List.set_cons_zero, List.set_cons_succ, i64_w, i32_w]
            rfl
          refine pure_ (i := 2) (N := some 7) (v := ?_) (a' := ?_) #[true, true, true, false, false, false, false, false, false, false, false, false, false, false, false, false, false, false, false, false, false, false] rfl rfl (by kernel_rfl) (fun _ _ _ h => h) (Or.inl ⟨by rfl, ?_⟩) ?_ ?_
          rotate_left
          · intro w'
            go_simp
            first | done | with_reducible rfl
          rotate_left
          · simp only [Act.put, List.setIfInBounds_toArray, List.set_cons_zero, List.set_cons_succ, i64_w, i32_w]
            rfl
          refine pure_ (i := 3) (N := some 8) (v := ?_) (a' := ?_) #[true, true, true, true, false, false, false, false, false, false, false, false, false, false, false, false, false, false, false, false, false, false] rfl rfl (by kernel_rfl) (fun _ _ _ h => h) (Or.inl ⟨by rfl, ?_⟩) ?_ ?_
          rotate_left
          · intro w'
            go_simp
            first | done | with_reducible rfl
          rotate_left
          · simp only [Act.put, List.setIfInBounds_toArray, List.set_cons_zero, List.set_cons_succ, i64_w, i32_w]
            rfl
          refine pure_ (i := 4) (N := some 9) (v := ?_) (a' := ?_) #[true, true, true, true, true, false, false, false, false, false, false, false, false, false, false, false, false, false, false, false, false, false] rfl rfl (by kernel_rfl) (fun _ _ _ h => h) (Or.inl ⟨by rfl, ?_⟩) ?_ ?_
          rotate_left
          · intro w'
            go_simp
            first | done | with_reducible rfl
          rotate_left
          · simp only [Act.put, List.setIfInBounds_toArray, List.set_cons_zero, List.set_cons_succ, i64_w, i32_w]
            rfl
          refine take_ (i := 5) (N := some 10) (v := ?_) (a' := ?_) #[true, true, true, true, true, true, false, false, false, false, false, false, false, false, false, false, false, false, false, false, false, false] rfl rfl (by kernel_rfl) (fun _ _ _ h => h) (Or.inl ⟨by rfl, ?_⟩) hHeld1 ?_ ?_
          rotate_left
          · rintro w' ⟨_, ⟨s0, s1, s2, s3, s4⟩, s5, s6, s7, s8⟩
            go_simp
            first | done | with_reducible rfl
          rotate_left
          · simp only [Act.put, List.setIfInBounds_toArray, List.set_cons_zero, List.set_cons_succ, i64_w, i32_w]
            rfl
          refine pure_ (i := 6) (N := some 11) (v := ?_) (a' := ?_) #[true, true, true, true, true, true, true, false, false, false, false, false, false, false, false, false, false, false, false, false, false, false] rfl rfl (by kernel_rfl) (fun _ _ _ h => h) (Or.inl ⟨by rfl, ?_⟩) ?_ ?_
          rotate_left
          · intro w'
            go_simp
            first | done | with_reducible rfl
          rotate_left
          · simp only [Act.put, List.setIfInBounds_toArray, List.set_cons_zero, List.set_cons_succ, i64_w, i32_w]
            rfl
          refine pure_ (i := 7) (N := some 12) (v := ?_) (a' := ?_) #[true, true, true, true, true, true, true, true, false, false, false, false, false, false, false, false, false, false, false, false, false, false] rfl rfl (by kernel_rfl) (fun _ _ _ h => h) (Or.inl ⟨by rfl, ?_⟩) ?_ ?_
          rotate_left
          · intro w'
            go_simp
            first | done | with_reducible rfl
          rotate_left
          · simp only [Act.put, List.setIfInBounds_toArray, List.set_cons_zero, List.set_cons_succ, i64_w, i32_w]
            rfl
          refine pure_ (i := 8) (N := some 13) (v := ?_) (a' := ?_) #[true, true, true, true, true, true, true, true, true, false, false, false, false, false, false, false, false, false, false, false, false, false] rfl rfl (by kernel_rfl) (fun _ _ _ h => h) (Or.inl ⟨by rfl, ?_⟩) ?_ ?_
          rotate_left
          · intro w'
            go_simp
            first | done | with_reducible rfl
          rotate_left
          · simp only [Act.put, List.setIfInBounds_toArray, List.set_cons_zero, List.set_cons_succ, i64_w, i32_w]
            rfl
          refine take_ (i := 9) (N := some 14) (v := ?_) (a' := ?_) #[true, true, true, true, true, true, true, true, true, true, false, false, false, false, false, false, false, false, false, false, false, false] rfl rfl (by kernel_rfl) (fun _ _ _ h => h) (Or.inl ⟨by rfl, ?_⟩) hHeld1 ?_ ?_
          rotate_left
          · rintro w' ⟨_, ⟨s0, s1, s2, s3, s4⟩, s5, s6, s7, s8⟩
            go_simp
            first | done | with_reducible rfl
          rotate_left
          · simp only [Act.put, List.setIfInBounds_toArray, List.set_cons_zero, List.set_cons_succ, i64_w, i32_w]
            rfl
          refine pure_ (i := 10) (N := some 15) (v := ?_) (a' := ?_) #[true, true, true, true, true, true, true, true, true, true, true, false, false, false, false, false, false, false, false, false, false, false] rfl rfl (by kernel_rfl) (fun _ _ _ h => h) (Or.inl ⟨by rfl, ?_⟩) ?_ ?_
          rotate_left
          · intro w'
            go_simp
            first | done | with_reducible rfl
          rotate_left
          · simp only [Act.put, List.setIfInBounds_toArray, List.set_cons_zero, List.set_cons_succ, i64_w, i32_w]
            rfl
          refine pure_ (i := 11) (N := some 16) (v := ?_) (a' := ?_) #[true, true, true, true, true, true, true, true, true, true, true, true, false, false, false, false, false, false, false, false, false, false] rfl rfl (by kernel_rfl) (fun _ _ _ h => h) (Or.inl ⟨by rfl, ?_⟩) ?_ ?_
          rotate_left
          · intro w'
            go_simp
            first | done | with_reducible rfl
          rotate_left
          · simp only [Act.put, List.setIfInBounds_toArray, List.set_cons_zero, List.set_cons_succ, i64_w, i32_w]
            rfl
          refine pure_ (i := 12) (N := some 17) (v := ?_) (a' := ?_) #[true, true, true, true, true, true, true, true, true, true, true, true, true, false, false, false, false, false, false, false, false, false] rfl rfl (by kernel_rfl) (fun _ _ _ h => h) (Or.inl ⟨by rfl, ?_⟩) ?_ ?_
          rotate_left
          · intro w'
            go_simp
            first | done | with_reducible rfl
          rotate_left
          · simp only [Act.put, List.setIfInBounds_toArray, List.set_cons_zero, List.set_cons_succ, i64_w, i32_w]
            rfl
          refine pure_ (i := 13) (N := some 18) (v := ?_) (a' := ?_) #[true, true, true, true, true, true, true, true, true, true, true, true, true, true, false, false, false, false, false, false, false, false] rfl rfl (by kernel_rfl) (fun _ _ _ h => h) (Or.inl ⟨by rfl, ?_⟩) ?_ ?_
          rotate_left
          · intro w'
            go_simp
            first | done | with_reducible rfl
          rotate_left
          · simp only [Act.put, List.setIfInBounds_toArray, List.set_cons_zero, List.set_cons_succ, i64_w, i32_w]
            rfl
          refine take_ (i := 14) (N := some 19) (v := ?_) (a' := ?_) #[true, true, true, true, true, true, true, true, true, true, true, true, true, true, true, false, false, false, false, false, false, false] rfl rfl (by kernel_rfl) (fun _ _ _ h => h) (Or.inl ⟨by rfl, ?_⟩) hHeld1 ?_ ?_
          rotate_left
          · rintro w' ⟨_, ⟨s0, s1, s2, s3, s4⟩, s5, s6, s7, s8⟩
            go_simp
            first | done | with_reducible rfl
          rotate_left
          · simp only [Act.put, List.setIfInBounds_toArray, List.set_cons_zero, List.set_cons_succ, i64_w, i32_w]
            rfl
          refine pure_ (i := 15) (N := some 20) (v := ?_) (a' := ?_) #[true, true, true, true, true, true, true, true, true, true, true, true, true, true, true, true, false, false, false, false, false, false] rfl rfl (by kernel_rfl) (fun _ _ _ h => h) (Or.inl ⟨by rfl, ?_⟩) ?_ ?_
          rotate_left
          · intro w'
            go_simp
            first | done | with_reducible rfl
          rotate_left
          · simp only [Act.put, List.setIfInBounds_toArray, List.set_cons_zero, List.set_cons_succ, i64_w, i32_w]
            rfl
          refine pure_ (i := 16) (N := some 21) (v := ?_) (a' := ?_) #[true, true, true, true, true, true, true, true, true, true, true, true, true, true, true, true, true, false, false, false, false, false] rfl rfl (by kernel_rfl) (fun _ _ _ h => h) (Or.inl ⟨by rfl, ?_⟩) ?_ ?_
          rotate_left
          · intro w'
            go_simp
            first | done | with_reducible rfl
          rotate_left
          · simp only [Act.put, List.setIfInBounds_toArray, List.set_cons_zero, List.set_cons_succ, i64_w, i32_w]
            rfl
          refine pure_ (i := 17) (N := some 22) (v := ?_) (a' := ?_) #[true, true, true, true, true, true, true, true, true, true, true, true, true, true, true, true, true, true, false, false, false, false] rfl rfl (by kernel_rfl) (fun _ _ _ h => h) (Or.inl ⟨by rfl, ?_⟩) ?_ ?_
          rotate_left
          · intro w'
            go_simp
            first | done | with_reducible rfl
          rotate_left
          · simp only [Act.put, List.setIfInBounds_toArray, List.set_cons_zero, List.set_cons_succ, i64_w, i32_w]
            rfl
          refine take_ (i := 18) (N := some 23) (v := ?_) (a' := ?_) #[true, true, true, true, true, true, true, true, true, true, true, true, true, true, true, true, true, true, true, false, false, false] rfl rfl (by kernel_rfl) (fun _ _ _ h => h) (Or.inl ⟨by rfl, ?_⟩) hHeld1 ?_ ?_
          rotate_left
          · rintro w' ⟨_, ⟨s0, s1, s2, s3, s4⟩, s5, s6, s7, s8⟩
            go_simp
            first | done | with_reducible rfl
          rotate_left
          · simp only [Act.put, List.setIfInBounds_toArray, List.set_cons_zero, List.set_cons_succ, i64_w, i32_w]
            rfl
          refine pure_ (i := 19) (N := some 24) (v := ?_) (a' := ?_) #[true, true, true, true, true, true, true, true, true, true, true, true, true, true, true, true, true, true, true, true, false, false] rfl rfl (by kernel_rfl) (fun _ _ _ h => h) (Or.inl ⟨by rfl, ?_⟩) ?_ ?_
          rotate_left
          · intro w'
            go_simp
            first | done | with_reducible rfl
          rotate_left
          · simp only [Act.put, List.setIfInBounds_toArray, List.set_cons_zero, List.set_cons_succ, i64_w, i32_w]
            rfl
          refine pure_ (i := 20) (N := some 25) (v := ?_) (a' := ?_) #[true, true, true, true, true, true, true, true, true, true, true, true, true, true, true, true, true, true, true, true, true, false] rfl rfl (by kernel_rfl) (fun _ _ _ h => h) (Or.inl ⟨by rfl, ?_⟩) ?_ ?_
          rotate_left
          · intro w'
            go_simp
            first | done | with_reducible rfl
          rotate_left
          · simp only [Act.put, List.setIfInBounds_toArray, List.set_cons_zero, List.set_cons_succ, i64_w, i32_w]
            rfl
          refine tail_list 21 (t := [21]) (fuel := 0) rfl rfl rfl (by kernel_rfl) (by decide) ?_
          have HT9 := Lib.hid hHeld1
          clear hHeld hHeld1 hep'
          obtain ⟨th, hth⟩ : ∃ th, th = max e.there x.f1.toNat := ⟨_, rfl⟩
          have hmx : (if (e.there : Int) < x.f1 then x.f1 else (e.there : Int)) = (th : Int) := by split <;> omega
          have HTH := Lib.hid hth
          clear hth
          go_upto_region 3 with (fail)
          refine start_ (S := TkS w 77 g w.heap.size x (.slice A n c) e (.slice As m cs) (.slice Ac mc cc)) (ds := [8, 9, 10]) (n := 11) #[false, false, false, false, false, false, false, false, false, false, false] rfl rfl rfl ?hS0 (fun hHeld => ?hrun)
          case hS0 => exact HT9.out.drew
          case hrun =>
            refine pure_ (i := 0) (N := some 27) (v := ?_) (a' := ?_) #[true, false, false, false, false, false, false, false, false, false, false] rfl rfl (by kernel_rfl) (fun _ _ _ h => h) (Or.inl ⟨by rfl, ?_⟩) ?_ ?_
            rotate_left
            · intro w'
              go_simp
              first | done | with_reducible rfl
            rotate_left
            · simp only [Act.put, List.setIfInBounds_toArray, List.set_cons_zero, List.set_cons_succ, i64_w, i32_w]
              rfl
            refine pure_ (i := 1) (N := some 28) (v := ?_) (a' := ?_) #[true, true, false, false, false, false, false, false, false, false, false] rfl rfl (by kernel_rfl) (fun _ _ _ h => h) (Or.inl ⟨by rfl, ?_⟩) ?_ ?_
            rotate_left
            · intro w'
              go_simp
              first | done | with_reducible rfl
            rotate_left
            · simp only [Act.put, List.setIfInBounds_toArray, List.set_cons_zero, List.set_cons_succ, i64_w, i32_w]
              rfl
            refine pure_ (i := 2) (N := some 29) (v := ?_) (a' := ?_) #[true, true, true, false, false, false, false, false, false, false, false] rfl rfl (by kernel_rfl) (fun _ _ _ h => h) (Or.inl ⟨by rfl, ?_⟩) ?_ ?_
            rotate_left
            · intro w'
              go_simp
              first | done | with_reducible rfl
            rotate_left
            · simp only [Act.put, List.setIfInBounds_toArray, List.set_cons_zero, List.set_cons_succ, i64_w, i32_w]
              rfl
            refine pure_ (i := 3) (N := some 30) (v := ?_) (a' := ?_) #[true, true, true, true, false, false, false, false, false, false, false] rfl rfl (by kernel_rfl) (fun _ _ _ h => h) (Or.inl ⟨by rfl, ?_⟩) ?_ ?_
            rotate_left
            · intro w'
              go_simp
              first | done | with_reducible rfl
            rotate_left
            · simp only [Act.put, List.setIfInBounds_toArray, List.set_cons_zero, List.set_cons_succ, i64_w, i32_w]
              rfl
            refine take_ (i := 4) (N := some 31) (v := ?_) (a' := ?_) #[true, true, true, true, true, false, false, false, false, false, false] rfl rfl (by kernel_rfl) (fun _ _ _ h => h) (Or.inl ⟨by rfl, ?_⟩) hHeld ?_ ?_
            rotate_left
            · rintro w' ⟨_, ⟨s0, s1, s2, s3, s4⟩, s5, s6, s7, s8⟩
              go_simp
              first | done | with_reducible rfl
            rotate_left
            · simp only [Act.put, List.setIfInBounds_toArray, List.set_cons_zero, List.set_cons_succ, i64_w, i32_w]
              rfl
            refine pure_ (i := 5) (N := some 32) (v := ?_) (a' := ?_) #[true, true, true, true, true, true, false, false, false, false, false] rfl rfl (by kernel_rfl) (fun _ _ _ h => h) (Or.inl ⟨by rfl, ?_⟩) ?_ ?_
            rotate_left
            · intro w'
              go_simp
              first | done | with_reducible rfl
            rotate_left
            · simp only [Act.put, List.setIfInBounds_toArray, List.set_cons_zero, List.set_cons_succ, i64_w, i32_w]
              rfl
            refine take_ (i := 6) (N := some 33) (v := ?_) (a' := ?_) #[true, true, true, true, true, true, true, false, false, false, false] rfl rfl (by kernel_rfl) (fun _ _ _ h => h) (Or.inl ⟨by rfl, ?_⟩) hHeld ?_ ?_
            rotate_left
            · rintro w' ⟨_, ⟨s0, s1, s2, s3, s4⟩, s5, s6, s7, s8⟩
              go_simp
              first | done | with_reducible rfl
            rotate_left
            · simp only [Act.put, List.setIfInBounds_toArray, List.set_cons_zero, List.set_cons_succ, i64_w, i32_w]
              rfl
            refine pure_ (i := 7) (N := some 34) (v := ?_) (a' := ?_) #[true, true, true, true, true, true, true, true, false, false, false] rfl rfl (by kernel_rfl) (fun _ _ _ h => h) (Or.inl ⟨by rfl, ?_⟩) ?_ ?_
            rotate_left
            · intro w'
              go_simp
              with_reducible rfl
            rotate_left
            · simp only [Act.put, List.setIfInBounds_toArray, List.set_cons_zero, List.set_cons_succ, i64_w, i32_w]
              rfl
            refine tail_list 8 (t := [8, 9, 10]) (fuel := 0) rfl rfl rfl (by kernel_rfl) (by decide) ?_
            have hg9 : g < w9.heap.size := blk_lt HT9.out.1.2.2
            obtain ⟨_, _, hc9, _, _, _, hfz, _⟩ := cells4 HT9.out.1.2.2
            obtain ⟨e2, he2⟩ : ∃ e2, e2 = { e with there := th } := ⟨_, rfl⟩
            have HT4 := Lib.hid (HT9.out.set (show w.heap.size ≠ g by omega) th).drew
            rw [← he2] at HT4
            have HE2 := Lib.hid (HE.out.put H1.out th HT4.out.1.1 (by have := HT4.out.1.2.2; rw [he2] at this; exact this))
            rw [← he2] at HE2
            have HEQ := Lib.hid he2
            clear hmx he2 HT1
            go_upto_region 4 with (fail)
            have HTE := Lib.hid (show takeE e x = (if x.f2 = true ∧ x.f3 = (e2.came.length : Int) then { e2 with came := e2.came ++ [x.f4] } else e2) from by
              unfold takeE
              rw [HYES.out, if_pos rfl, HEQ.out, HTH.out]
              split <;> simp_all)
            have HCM := Lib.hid (show e2.came.length = mc from by rw [HEQ.out]; exact HMC.out.symm)
            obtain ⟨w4, hw4⟩ : ∃ w4, w4 = (w9.setCell ⟨g, 2, none⟩ (.int .i64 (th : Int))).drew := ⟨_, rfl⟩
            rw [← hw4] at HT4 HE2 ⊢
            clear hw4 HT9 hHeld hg9 hc9 hfz
            obtain ⟨has, hhas⟩ : ∃ b, b = x.f2 := ⟨_, rfl⟩
            have HHAS := Lib.hid hhas.symm
            cases has with
            | false =>
              have hf2 : x.f2 = false := hhas.symm
              have HCOND := Lib.hid (show ¬ (x.f2 = true ∧ x.f3 = (e2.came.length : Int)) from fun h => by rw [hf2] at h; cases h.1)
              clear hhas
              refine start_ (S := TkS w 77 g w.heap.size x (.slice A n c) e2 (.slice As m cs) (.slice Ac mc cc)) (ds := [11]) (n := 12) #[false, false, false, false, false, false, false, false, false, false, false, false] rfl rfl rfl ?hS0 (fun hHeld => ?hrun)
              case hS0 => exact HT4.out.drew
              case hrun =>
                refine pure_ (i := 0) (N := some 37) (v := ?_) (a' := ?_) #[true, false, false, false, false, false, false, false, false, false, false, false] rfl rfl (by kernel_rfl) (fun _ _ _ h => h) (Or.inl ⟨by rfl, ?_⟩) ?_ ?_
                rotate_left
                · intro w'
                  go_simp
                  first | done | with_reducible rfl
                rotate_left
                · simp only [Act.put, List.setIfInBounds_toArray, List.set_cons_zero, List.set_cons_succ, i64_w, i32_w]
                  rfl
                refine take_ (i := 1) (N := some 38) (v := ?_) (a' := ?_) #[true, true, false, false, false, false, false, false, false, false, false, false] rfl rfl (by kernel_rfl) (fun _ _ _ h => h) (Or.inl ⟨by rfl, ?_⟩) hHeld ?_ ?_
                rotate_left
                · rintro w' ⟨_, ⟨s0, s1, s2, s3, s4⟩, s5, s6, s7, s8⟩
                  go_simp
                  first | done | with_reducible rfl
                rotate_left
                · simp only [Act.put, List.setIfInBounds_toArray, List.set_cons_zero, List.set_cons_succ, i64_w, i32_w]
                  rfl
                refine pure_ (i := 2) (N := some 39) (v := ?_) (a' := ?_) #[true, true, true, false, false, false, false, false, false, false, false, false] rfl rfl (by kernel_rfl) (fun _ _ _ h => h) (Or.inl ⟨by rfl, ?_⟩) ?_ ?_
                rotate_left
                · intro w'
                  go_simp
                  first | done | with_reducible rfl
                rotate_left
                · simp only [Act.put, List.setIfInBounds_toArray, List.set_cons_zero, List.set_cons_succ, i64_w, i32_w]
                  rfl
                refine pure_ (i := 3) (N := some 40) (v := undef) (a' := ?_) #[true, true, true, true, false, false, false, false, false, false, false, false] rfl rfl (by kernel_rfl) (fun _ _ _ h => h) (Or.inr ⟨by rfl, rfl⟩) ?_ ?_
                rotate_left
                · simp only [Act.put, List.setIfInBounds_toArray, List.set_cons_zero, List.set_cons_succ, i64_w, i32_w]
                  rfl
                refine pure_ (i := 4) (N := some 41) (v := undef) (a' := ?_) #[true, true, true, true, true, false, false, false, false, false, false, false] rfl rfl (by kernel_rfl) (fun _ _ _ h => h) (Or.inr ⟨by rfl, rfl⟩) ?_ ?_
                rotate_left
                · simp only [Act.put, List.setIfInBounds_toArray, List.set_cons_zero, List.set_cons_succ, i64_w, i32_w]
                  rfl
                refine pure_ (i := 5) (N := some 42) (v := undef) (a' := ?_) #[true, true, true, true, true, true, false, false, false, false, false, false] rfl rfl (by kernel_rfl) (fun _ _ _ h => h) (Or.inr ⟨by rfl, rfl⟩) ?_ ?_
                rotate_left
                · simp only [Act.put, List.setIfInBounds_toArray, List.set_cons_zero, List.set_cons_succ, i64_w, i32_w]
                  rfl
                refine pure_ (i := 6) (N := some 43) (v := undef) (a' := ?_) #[true, true, true, true, true, true, true, false, false, false, false, false] rfl rfl (by kernel_rfl) (fun _ _ _ h => h) (Or.inr ⟨by rfl, rfl⟩) ?_ ?_
                rotate_left
                · simp only [Act.put, List.setIfInBounds_toArray, List.set_cons_zero, List.set_cons_succ, i64_w, i32_w]
                  rfl
                refine pure_ (i := 7) (N := some 44) (v := undef) (a' := ?_) #[true, true, true, true, true, true, true, true, false, false, false, false] rfl rfl (by kernel_rfl) (fun _ _ _ h => h) (Or.inr ⟨by rfl, rfl⟩) ?_ ?_
                rotate_left
                · simp only [Act.put, List.setIfInBounds_toArray, List.set_cons_zero, List.set_cons_succ, i64_w, i32_w]
                  rfl
                refine pure_ (i := 8) (N := some 45) (v := undef) (a' := ?_) #[true, true, true, true, true, true, true, true, true, false, false, false] rfl rfl (by kernel_rfl) (fun _ _ _ h => h) (Or.inr ⟨by rfl, rfl⟩) ?_ ?_
                rotate_left
                · simp only [Act.put, List.setIfInBounds_toArray, List.set_cons_zero, List.set_cons_succ, i64_w, i32_w]
                  rfl
                refine pure_ (i := 9) (N := some 46) (v := undef) (a' := ?_) #[true, true, true, true, true, true, true, true, true, true, false, false] rfl rfl (by kernel_rfl) (fun _ _ _ h => h) (Or.inr ⟨by rfl, rfl⟩) ?_ ?_
                rotate_left
                · simp only [Act.put, List.setIfInBounds_toArray, List.set_cons_zero, List.set_cons_succ, i64_w, i32_w]
                  rfl
                refine pure_ (i := 10) (N := some 47) (v := undef) (a' := ?_) #[true, true, true, true, true, true, true, true, true, true, true, false] rfl rfl (by kernel_rfl) (fun _ _ _ h => h) (Or.inr ⟨by rfl, rfl⟩) ?_ ?_
                rotate_left
                · simp only [Act.put, List.setIfInBounds_toArray, List.set_cons_zero, List.set_cons_succ, i64_w, i32_w]
                  rfl
                refine tail_list 11 (t := [11]) (fuel := 0) rfl rfl rfl (by kernel_rfl) (by decide) ?_
                have HT5 := Lib.hid hHeld
                go_wp2_with fail
                go_ret
                rw [HYES.out]
                refine ⟨by simp, ?_⟩
                rw [HTE.out, if_neg HCOND.out]
                obtain ⟨S2, q1, q2, q3⟩ := HE2.out
                exact ⟨S2, q1.below ((Below.refl _ _).drew), q2, q3.drew⟩
            | true =>
              have hf2 : x.f2 = true := hhas.symm
              clear hhas
              by_cases hseq : x.f3 = (mc : Int)
              · have hsq : (x.f3 == (mc : Int)) = true := beq_iff_eq.2 hseq
                have HCOND := Lib.hid (show x.f2 = true ∧ x.f3 = (e2.came.length : Int) from ⟨hf2, by rw [HCM.out]; exact hseq⟩)
                clear hseq
                refine start_ (S := TkS w 77 g w.heap.size x (.slice A n c) e2 (.slice As m cs) (.slice Ac mc cc)) (ds := [11]) (n := 12) #[false, false, false, false, false, false, false, false, false, false, false, false] rfl rfl rfl ?hS0 (fun hHeld => ?hrun)
                case hS0 => exact HT4.out.drew
                case hrun =>
                  refine pure_ (i := 0) (N := some 37) (v := ?_) (a' := ?_) #[true, false, false, false, false, false, false, false, false, false, false, false] rfl rfl (by kernel_rfl) (fun _ _ _ h => h) (Or.inl ⟨by rfl, ?_⟩) ?_ ?_
                  rotate_left
                  · intro w'
                    go_simp
                    first | done | with_reducible rfl
                  rotate_left
                  · simp only [Act.put, List.setIfInBounds_toArray, List.set_cons_zero, List.set_cons_succ, i64_w, i32_w]
                    rfl
                  refine take_ (i := 1) (N := some 38) (v := ?_) (a' := ?_) #[true, true, false, false, false, false, false, false, false, false, false, false] rfl rfl (by kernel_rfl) (fun _ _ _ h => h) (Or.inl ⟨by rfl, ?_⟩) hHeld ?_ ?_
                  rotate_left
                  · rintro w' ⟨_, ⟨s0, s1, s2, s3, s4⟩, s5, s6, s7, s8⟩
                    go_simp
                    first | done | with_reducible rfl
                  rotate_left
                  · simp only [Act.put, List.setIfInBounds_toArray, List.set_cons_zero, List.set_cons_succ, i64_w, i32_w]
                    rfl
                  refine pure_ (i := 2) (N := some 39) (v := ?_) (a' := ?_) #[true, true, true, false, false, false, false, false, false, false, false, false] rfl rfl (by kernel_rfl) (fun _ _ _ h => h) (Or.inl ⟨by rfl, ?_⟩) ?_ ?_
                  rotate_left
                  · intro w'
                    go_simp
                    first | done | with_reducible rfl
                  rotate_left
                  · simp only [Act.put, List.setIfInBounds_toArray, List.set_cons_zero, List.set_cons_succ, i64_w, i32_w]
                    rfl
                  refine pure_ (i := 3) (N := some 40) (v := ?_) (a' := ?_) #[true, true, true, true, false, false, false, false, false, false, false, false] rfl rfl (by kernel_rfl) (fun _ _ _ h => h) (Or.inl ⟨by rfl, ?_⟩) ?_ ?_
                  rotate_left
                  · intro w'
                    go_simp
                    first | done | with_reducible rfl
                  rotate_left
                  · simp only [Act.put, List.setIfInBounds_toArray, List.set_cons_zero, List.set_cons_succ, i64_w, i32_w]
                    rfl
                  refine take_ (i := 4) (N := some 41) (v := ?_) (a' := ?_) #[true, true, true, true, true, false, false, false, false, false, false, false] rfl rfl (by kernel_rfl) (fun _ _ _ h => h) (Or.inl ⟨by rfl, ?_⟩) hHeld ?_ ?_
                  rotate_left
                  · rintro w' ⟨_, ⟨s0, s1, s2, s3, s4⟩, s5, s6, s7, s8⟩
                    go_simp
                    first | done | with_reducible rfl
                  rotate_left
                  · simp only [Act.put, List.setIfInBounds_toArray, List.set_cons_zero, List.set_cons_succ, i64_w, i32_w]
                    rfl
                  refine pure_ (i := 5) (N := some 42) (v := ?_) (a' := ?_) #[true, true, true, true, true, true, false, false, false, false, false, false] rfl rfl (by kernel_rfl) (fun _ _ _ h => h) (Or.inl ⟨by rfl, ?_⟩) ?_ ?_
                  rotate_left
                  · intro w'
                    go_simp
                    first | done | with_reducible rfl
                  rotate_left
                  · simp only [Act.put, List.setIfInBounds_toArray, List.set_cons_zero, List.set_cons_succ, i64_w, i32_w]
                    rfl
                  refine pure_ (i := 6) (N := some 43) (v := ?_) (a' := ?_) #[true, true, true, true, true, true, true, false, false, false, false, false] rfl rfl (by kernel_rfl) (fun _ _ _ h => h) (Or.inl ⟨by rfl, ?_⟩) ?_ ?_
                  rotate_left
                  · intro w'
                    go_simp
                    first | done | with_reducible rfl
                  rotate_left
                  · simp only [Act.put, List.setIfInBounds_toArray, List.set_cons_zero, List.set_cons_succ, i64_w, i32_w]
                    rfl
                  refine pure_ (i := 7) (N := some 44) (v := ?_) (a' := ?_) #[true, true, true, true, true, true, true, true, false, false, false, false] rfl rfl (by kernel_rfl) (fun _ _ _ h => h) (Or.inl ⟨by rfl, ?_⟩) ?_ ?_
                  rotate_left
                  · intro w'
                    go_simp
                    first | done | with_reducible rfl
                  rotate_left
                  · simp only [Act.put, List.setIfInBounds_toArray, List.set_cons_zero, List.set_cons_succ, i64_w, i32_w]
                    rfl
                  refine take_ (i := 8) (N := some 45) (v := ?_) (a' := ?_) #[true, true, true, true, true, true, true, true, true, false, false, false] rfl rfl (by kernel_rfl) (fun _ _ _ h => h) (Or.inl ⟨by rfl, ?_⟩) hHeld ?_ ?_
                  rotate_left
                  · rintro w' ⟨_, ⟨s0, s1, s2, s3, s4⟩, s5, s6, s7, s8⟩
                    go_simp
                    first | done | with_reducible rfl
                  rotate_left
                  · simp only [Act.put, List.setIfInBounds_toArray, List.set_cons_zero, List.set_cons_succ, i64_w, i32_w]
                    rfl
                  refine pure_ (i := 9) (N := some 46) (v := ?_) (a' := ?_) #[true, true, true, true, true, true, true, true, true, true, false, false] rfl rfl (by kernel_rfl) (fun _ _ _ h => h) (Or.inl ⟨by rfl, ?_⟩) ?_ ?_
                  rotate_left
                  · intro w'
                    go_simp
                    first | done | with_reducible rfl
                  rotate_left
                  · simp only [Act.put, List.setIfInBounds_toArray, List.set_cons_zero, List.set_cons_succ, i64_w, i32_w]
                    rfl
                  refine pure_ (i := 10) (N := some 47) (v := ?_) (a' := ?_) #[true, true, true, true, true, true, true, true, true, true, true, false] rfl rfl (by kernel_rfl) (fun _ _ _ h => h) (Or.inl ⟨by rfl, ?_⟩) ?_ ?_
                  rotate_left
                  · intro w'
                    go_simp
                    first | done | with_reducible rfl
                  rotate_left
                  · simp only [Act.put, List.setIfInBounds_toArray, List.set_cons_zero, List.set_cons_succ, i64_w, i32_w]
                    rfl
                  refine tail_list 11 (t := [11]) (fuel := 0) rfl rfl rfl (by kernel_rfl) (by decide) ?_
                  have HT5 := Lib.hid hHeld
                  obtain ⟨w5, hw5⟩ : ∃ w5, w5 = w4.drew := ⟨_, rfl⟩
                  rw [← hw5] at HT5 ⊢
                  have hE2 : EndStep 77 w w5 base g S e2 := by
                    obtain ⟨S2, q1, q2, q3⟩ := HE2.out
                    rw [hw5]
                    exact ⟨S2, q1.below ((Below.refl _ _).drew), q2, q3.drew⟩
                  clear hw5 hHeld hsq
                  obtain ⟨S2, hEA, hS2, hT2⟩ := hE2
                  obtain ⟨vs', vc', Ss2, Sc2, k1, k2, k3, k4, k5⟩ := hEA.row
                  have ee := k1.symm.trans HT5.out.1.2.2
                  simp at ee
                  obtain ⟨rfl, rfl⟩ := ee
                  have hb2 : base ≤ w5.heap.size := by have := hEA.lt g hEA.own; omega
                  have hg5 : g < w5.heap.size := hEA.glt
                  have hCx : Kd.C (Kd.int .u8) w5 A n x.f4 := C_turns HC.out H1.out HT5.out.1.1
                  have HEA := Lib.hid (And.intro hEA (And.intro hS2 hT2))
                  have HK := Lib.hid (And.intro k1 (And.intro k2 (And.intro k3 (And.intro k4 k5))))
                  have HCx := Lib.hid hCx
                  clear hEA hS2 hT2 k1 k2 k3 k4 k5 hCx
                  go_upto_region 5 with (fail)
                  refine start_ (S := TkS w 77 g w.heap.size x (.slice A n c) e2 (.slice As m cs) (.slice Ac mc cc)) (ds := [9, 10, 11, 12]) (n := 13) #[false, false, false, false, false, false, false, false, false, false, false, false, false] rfl rfl rfl ?hS0 (fun hHeld => ?hrun)
                  case hS0 => exact HT5.out.drew
                  case hrun =>
                    refine pure_ (i := 0) (N := some 49) (v := ?_) (a' := ?_) #[true, false, false, false, false, false, false, false, false, false, false, false, false] rfl rfl (by kernel_rfl) (fun _ _ _ h => h) (Or.inl ⟨by rfl, ?_⟩) ?_ ?_
                    rotate_left
                    · intro w'
                      go_simp
                      first | done | with_reducible rfl
                    rotate_left
                    · simp only [Act.put, List.setIfInBounds_toArray, List.set_cons_zero, List.set_cons_succ, i64_w, i32_w]
                      rfl
                    refine pure_ (i := 1) (N := some 50) (v := ?_) (a' := ?_) #[true, true, false, false, false, false, false, false, false, false, false, false, false] rfl rfl (by kernel_rfl) (fun _ _ _ h => h) (Or.inl ⟨by rfl, ?_⟩) ?_ ?_
                    rotate_left
                    · intro w'
                      go_simp
                      first | done | with_reducible rfl
                    rotate_left
                    · simp only [Act.put, List.setIfInBounds_toArray, List.set_cons_zero, List.set_cons_succ, i64_w, i32_w]
                      rfl
                    refine pure_ (i := 2) (N := some 51) (v := ?_) (a' := ?_) #[true, true, true, false, false, false, false, false, false, false, false, false, false] rfl rfl (by kernel_rfl) (fun _ _ _ h => h) (Or.inl ⟨by rfl, ?_⟩) ?_ ?_
                    rotate_left
                    · intro w'
                      go_simp
                      first | done | with_reducible rfl
                    rotate_left
                    · simp only [Act.put, List.setIfInBounds_toArray, List.set_cons_zero, List.set_cons_succ, i64_w, i32_w]
                      rfl
                    refine pure_ (i := 3) (N := some 52) (v := ?_) (a' := ?_) #[true, true, true, true, false, false, false, false, false, false, false, false, false] rfl rfl (by kernel_rfl) (fun _ _ _ h => h) (Or.inl ⟨by rfl, ?_⟩) ?_ ?_
                    rotate_left
                    · intro w'
                      go_simp
                      first | done | with_reducible rfl
                    rotate_left
                    · simp only [Act.put, List.setIfInBounds_toArray, List.set_cons_zero, List.set_cons_succ, i64_w, i32_w]
                      rfl
                    refine take_ (i := 4) (N := some 53) (v := ?_) (a' := ?_) #[true, true, true, true, true, false, false, false, false, false, false, false, false] rfl rfl (by kernel_rfl) (fun _ _ _ h => h) (Or.inl ⟨by rfl, ?_⟩) hHeld ?_ ?_
                    rotate_left
                    · rintro w' ⟨_, ⟨s0, s1, s2, s3, s4⟩, s5, s6, s7, s8⟩
                      go_simp
                      first | done | with_reducible rfl
                    rotate_left
                    · simp only [Act.put, List.setIfInBounds_toArray, List.set_cons_zero, List.set_cons_succ, i64_w, i32_w]
                      rfl
                    refine pure_ (i := 5) (N := some 54) (v := ?_) (a' := ?_) #[true, true, true, true, true, true, false, false, false, false, false, false, false] rfl rfl (by kernel_rfl) (fun _ _ _ h => h) (Or.inl ⟨by rfl, ?_⟩) ?_ ?_
                    rotate_left
                    · intro w'
                      go_simp
                      first | done | with_reducible rfl
                    rotate_left
                    · simp only [Act.put, List.setIfInBounds_toArray, List.set_cons_zero, List.set_cons_succ, i64_w, i32_w]
                      rfl
                    refine take_ (i := 6) (N := some 55) (v := ?_) (a' := ?_) #[true, true, true, true, true, true, true, false, false, false, false, false, false] rfl rfl (by kernel_rfl) (fun _ _ _ h => h) (Or.inl ⟨by rfl, ?_⟩) hHeld ?_ ?_
                    rotate_left
                    · rintro w' ⟨_, ⟨s0, s1, s2, s3, s4⟩, s5, s6, s7, s8⟩
                      go_simp
                      first | done | with_reducible rfl
                    rotate_left
                    · simp only [Act.put, List.setIfInBounds_toArray, List.set_cons_zero, List.set_cons_succ, i64_w, i32_w]
                      rfl
                    refine one_ (i := 7) (N := some 56) #[true, true, true, true, true, true, true, true, false, false, false, false, false] rfl rfl (by kernel_rfl) (by decide) (fun K hK => ?_)
                    refine goes_ Tryd.func39 (by kernel_rfl) rfl #[.slice A n c] (by rfl) rfl rfl (by (try simp only [List.map_toArray, List.map_cons, List.map_nil]); first | done | rfl) ?_
                    have hcl := clone_any A c x.f4 w5.drew (by rw [HL.out]; exact Kd.C_below HCx.out ((Below.refl _ _).drew)) (by rw [HL.out]; exact hc) (by rw [HL.out]; exact hn)
                    rw [HL.out] at hcl
                    refine hcl.mono ?_
                    rintro r w6 ⟨v, rfl, hR, hB⟩
                    have HR6 := Lib.hid hR
                    have HB6 := Lib.hid (show Below w5.heap.size w5 w6 from ((Below.refl _ _).drew).trans hB)
                    have hS6 := hHeld.step hB
                    obtain ⟨A6, c6, rfl⟩ := Kd.R_slice hR
                    clear hR hB hcl hHeld
                    refine ⟨_, rfl, ?_⟩
                    refine hK.out _ _ hS6 (fun hHeld1 => ?_)
                    clear hK K
                    refine norm_ (a' := ?_) ?_ ?_
                    rotate_left
                    · show Act.put _ (some 56) _ = _
                      simp only [Act.put, List.setIfInBounds_toArray, List.set_cons_zero, List.set_cons_succ, i64_w, i32_w]
                      rfl
                    refine one_ (i := 8) (N := some 57) #[true, true, true, true, true, true, true, true, true, false, false, false, false] rfl rfl (by kernel_rfl) (by decide) (fun K hK => ?_)
                    refine value_ (by rfl) rfl (by go_simp; first | rfl | exact ⟨rfl, rfl⟩) ?_
                    refine hK.out _ _ (hS6.step ((Below.refl w6.heap.size w6).alloc (Nat.le_refl _) _)) (fun hHeld2 => ?_)
                    clear hK K
                    refine norm_ (a' := ?_) ?_ ?_
                    rotate_left
                    · show Act.put _ (some 57) _ = _
                      simp only [Act.put, List.setIfInBounds_toArray, List.set_cons_zero, List.set_cons_succ, i64_w, i32_w]
                      rfl
                    refine tail_list 9 (t := [9, 10, 11, 12]) (fuel := 0) rfl rfl rfl (by kernel_rfl) (by decide) ?_
                    refine Kd.R_append kT (w0 := w6) (W := w6) base rfl _ _ 45 22 (.slice none 0 0) 24 rfl Tryd.underlying45 infoT rfl (by decide) (by decide) (.slice Ac mc cc) e2.came x.f4 [.slice A6 x.f4.length c6] (fun k => Sc2 k ∨ w5.heap.size ≤ k) (fun k => w5.heap.size ≤ k) rfl rfl ?hp ?hokp ?hfresh ?HO ?HB ?hb2 ?hl2 ?hk2
                    case hp => exact ⟨_, rfl, Kd.R_lower (Kd.R_mono (Kd.R_bound HR6.out) (fun k hk => hk.2.1)) hb2⟩
                    case hokp =>
                      intro k hk
                      refine ⟨.inr hk, fun e' => ?_⟩
                      have hs := (HEA.out.1.lt k (HK.out.2.2.2.2 k (own_ok HK.out.2.2.1 k e'.symm)).1).1
                      have hk2 : w5.heap.size ≤ k := hk
                      omega
                    case hfresh => exact fun k hk => .inr (by have := HB6.out.size; omega)
                    case HO => exact Kd.R_below (Kd.R_mono HK.out.2.2.1 (fun k hk => .inl hk)) HB6.out
                    case HB => exact Below.refl _ _
                    case hb2 => have := HB6.out.size; omega
                    case hl2 => have := HCM.out; omega
                    case hk2 =>
                      intro v1 w7 hR1 _ hg1 _
                      obtain ⟨hc1, hst⟩ := EndAt.growC (l := x.f4) HEA.out.1 HK.out.1 HK.out.2.1 HK.out.2.2.2.1 HK.out.2.2.2.2 (own_ok HK.out.2.2.1) HB6.out hR1 hg1
                      obtain ⟨A1, c1', rfl⟩ := Kd.R_slice hR1
                      obtain ⟨_, _, _, d1, _, _, _, q1⟩ := cells4 hc1
                      have hl1 : g < w7.heap.size := blk_lt hc1
                      have HST := Lib.hid (EndStep.then_ HEA.out.2.1 HEA.out.2.2 hst)
                      clear hR1 hg1 hc1 hst hS6 hHeld1 hHeld2
                      go_wp2_with fail
                      go_ret
                      rw [HYES.out]
                      have hst := HST.out
                      rw [List.length_append, List.length_singleton] at hst
                      refine ⟨rfl, ?_⟩
                      rw [HTE.out, if_pos HCOND.out]
                      exact hst
              · have hsq : (x.f3 == (mc : Int)) = false := by rw [beq_eq_false_iff_ne]; exact hseq
                have HCOND := Lib.hid (show ¬ (x.f2 = true ∧ x.f3 = (e2.came.length : Int)) from fun h => hseq (by rw [← HCM.out]; exact h.2))
                clear hseq
                refine start_ (S := TkS w 77 g w.heap.size x (.slice A n c) e2 (.slice As m cs) (.slice Ac mc cc)) (ds := [11]) (n := 12) #[false, false, false, false, false, false, false, false, false, false, false, false] rfl rfl rfl ?hS0 (fun hHeld => ?hrun)
                case hS0 => exact HT4.out.drew
                case hrun =>
                  refine pure_ (i := 0) (N := some 37) (v := ?_) (a' := ?_) #[true, false, false, false, false, false, false, false, false, false, false, false] rfl rfl (by kernel_rfl) (fun _ _ _ h => h) (Or.inl ⟨by rfl, ?_⟩) ?_ ?_
                  rotate_left
                  · intro w'
                    go_simp
                    first | done | with_reducible rfl
                  rotate_left
                  · simp only [Act.put, List.setIfInBounds_toArray, List.set_cons_zero, List.set_cons_succ, i64_w, i32_w]
                    rfl
                  refine take_ (i := 1) (N := some 38) (v := ?_) (a' := ?_) #[true, true, false, false, false, false, false, false, false, false, false, false] rfl rfl (by kernel_rfl) (fun _ _ _ h => h) (Or.inl ⟨by rfl, ?_⟩) hHeld ?_ ?_
                  rotate_left
                  · rintro w' ⟨_, ⟨s0, s1, s2, s3, s4⟩, s5, s6, s7, s8⟩
                    go_simp
                    first | done | with_reducible rfl
                  rotate_left
                  · simp only [Act.put, List.setIfInBounds_toArray, List.set_cons_zero, List.set_cons_succ, i64_w, i32_w]
                    rfl
                  refine pure_ (i := 2) (N := some 39) (v := ?_) (a' := ?_) #[true, true, true, false, false, false, false, false, false, false, false, false] rfl rfl (by kernel_rfl) (fun _ _ _ h => h) (Or.inl ⟨by rfl, ?_⟩) ?_ ?_
                  rotate_left
                  · intro w'
                    go_simp
                    first | done | with_reducible rfl
                  rotate_left
                  · simp only [Act.put, List.setIfInBounds_toArray, List.set_cons_zero, List.set_cons_succ, i64_w, i32_w]
                    rfl
                  refine pure_ (i := 3) (N := some 40) (v := ?_) (a' := ?_) #[true, true, true, true, false, false, false, false, false, false, false, false] rfl rfl (by kernel_rfl) (fun _ _ _ h => h) (Or.inl ⟨by rfl, ?_⟩) ?_ ?_
                  rotate_left
                  · intro w'
                    go_simp
                    first | done | with_reducible rfl
                  rotate_left
                  · simp only [Act.put, List.setIfInBounds_toArray, List.set_cons_zero, List.set_cons_succ, i64_w, i32_w]
                    rfl
                  refine take_ (i := 4) (N := some 41) (v := ?_) (a' := ?_) #[true, true, true, true, true, false, false, false, false, false, false, false] rfl rfl (by kernel_rfl) (fun _ _ _ h => h) (Or.inl ⟨by rfl, ?_⟩) hHeld ?_ ?_
                  rotate_left
                  · rintro w' ⟨_, ⟨s0, s1, s2, s3, s4⟩, s5, s6, s7, s8⟩
                    go_simp
                    first | done | with_reducible rfl
                  rotate_left
                  · simp only [Act.put, List.setIfInBounds_toArray, List.set_cons_zero, List.set_cons_succ, i64_w, i32_w]
                    rfl
                  refine pure_ (i := 5) (N := some 42) (v := ?_) (a' := ?_) #[true, true, true, true, true, true, false, false, false, false, false, false] rfl rfl (by kernel_rfl) (fun _ _ _ h => h) (Or.inl ⟨by rfl, ?_⟩) ?_ ?_
                  rotate_left
                  · intro w'
                    go_simp
                    first | done | with_reducible rfl
                  rotate_left
                  · simp only [Act.put, List.setIfInBounds_toArray, List.set_cons_zero, List.set_cons_succ, i64_w, i32_w]
                    rfl
                  refine pure_ (i := 6) (N := some 43) (v := ?_) (a' := ?_) #[true, true, true, true, true, true, true, false, false, false, false, false] rfl rfl (by kernel_rfl) (fun _ _ _ h => h) (Or.inl ⟨by rfl, ?_⟩) ?_ ?_
                  rotate_left
                  · intro w'
                    go_simp
                    first | done | with_reducible rfl
                  rotate_left
                  · simp only [Act.put, List.setIfInBounds_toArray, List.set_cons_zero, List.set_cons_succ, i64_w, i32_w]
                    rfl
                  refine pure_ (i := 7) (N := some 44) (v := ?_) (a' := ?_) #[true, true, true, true, true, true, true, true, false, false, false, false] rfl rfl (by kernel_rfl) (fun _ _ _ h => h) (Or.inl ⟨by rfl, ?_⟩) ?_ ?_
                  rotate_left
                  · intro w'
                    go_simp
                    first | done | with_reducible rfl
                  rotate_left
                  · simp only [Act.put, List.setIfInBounds_toArray, List.set_cons_zero, List.set_cons_succ, i64_w, i32_w]
                    rfl
                  refine take_ (i := 8) (N := some 45) (v := ?_) (a' := ?_) #[true, true, true, true, true, true, true, true, true, false, false, false] rfl rfl (by kernel_rfl) (fun _ _ _ h => h) (Or.inl ⟨by rfl, ?_⟩) hHeld ?_ ?_
                  rotate_left
                  · rintro w' ⟨_, ⟨s0, s1, s2, s3, s4⟩, s5, s6, s7, s8⟩
                    go_simp
                    first | done | with_reducible rfl
                  rotate_left
                  · simp only [Act.put, List.setIfInBounds_toArray, List.set_cons_zero, List.set_cons_succ, i64_w, i32_w]
                    rfl
                  refine pure_ (i := 9) (N := some 46) (v := ?_) (a' := ?_) #[true, true, true, true, true, true, true, true, true, true, false, false] rfl rfl (by kernel_rfl) (fun _ _ _ h => h) (Or.inl ⟨by rfl, ?_⟩) ?_ ?_
                  rotate_left
                  · intro w'
                    go_simp
                    first | done | with_reducible rfl
                  rotate_left
                  · simp only [Act.put, List.setIfInBounds_toArray, List.set_cons_zero, List.set_cons_succ, i64_w, i32_w]
                    rfl
                  refine pure_ (i := 10) (N := some 47) (v := ?_) (a' := ?_) #[true, true, true, true, true, true, true, true, true, true, true, false] rfl rfl (by kernel_rfl) (fun _ _ _ h => h) (Or.inl ⟨by rfl, ?_⟩) ?_ ?_
                  rotate_left
                  · intro w'
                    go_simp
                    first | done | with_reducible rfl
                  rotate_left
                  · simp only [Act.put, List.setIfInBounds_toArray, List.set_cons_zero, List.set_cons_succ, i64_w, i32_w]
                    rfl
                  refine tail_list 11 (t := [11]) (fuel := 0) rfl rfl rfl (by kernel_rfl) (by decide) ?_
                  have HT5 := Lib.hid hHeld
                  go_wp2_with fail
                  go_ret
                  rw [HYES.out]
                  refine ⟨by simp, ?_⟩
                  rw [HTE.out, if_neg HCOND.out]
                  obtain ⟨S2, q1, q2, q3⟩ := HE2.out
                  exact ⟨S2, q1.below ((Below.refl _ _).drew), q2, q3.drew⟩
      · have hack' : (m : Int) < x.f1 := by omega
        have HNO := Lib.hid (show takeOk e x = false from by unfold takeOk; rw [← HM.out, decide_eq_false hack]; simp)
        clear hep hack
        refine start_ (S := TkS w 77 g w.heap.size x (.slice A n c) e (.slice As m cs) (.slice Ac mc cc)) (ds := [21]) (n := 22) #[false, false, false, false, false, false, false, false, false, false, false, false, false, false, false, false, false, false, false, false, false, false] rfl rfl rfl ?hS0 (fun hHeld => ?hrun)
        case hS0 => exact HT1.out.drew
        case hrun =>
          refine take_ (i := 0) (N := some 5) (v := ?_) (a' := ?_) #[true, false, false, false, false, false, false, false, false, false, false, false, false, false, false, false, false, false, false, false, false, false] rfl rfl (by kernel_rfl) (fun _ _ _ h => h) (Or.inl ⟨by rfl, ?_⟩) hHeld ?_ ?_
          rotate_left
          · rintro w' ⟨_, ⟨s0, s1, s2, s3, s4⟩, s5, s6, s7, s8⟩
            go_simp
            first | done | with_reducible rfl
          rotate_left
          · simp only [Act.put, List.setIfInBounds_toArray, List.set_cons_zero, List.set_cons_succ, i64_w, i32_w]
            rfl
          refine one_ (i := 1) (N := some 6) #[true, true, false, false, false, false, false, false, false, false, false, false, false, false, false, false, false, false, false, false, false, false] rfl rfl (by kernel_rfl) (by decide) (fun K hK => ?_)
          refine goes_ Tryd.func34 (by kernel_rfl) rfl #[.agg #[.int .i64 x.f0, .int .i64 x.f1, .bool x.f2, .int .i64 x.f3, .slice A n c]] (by rfl) rfl rfl (by (try simp only [List.map_toArray, List.map_cons, List.map_nil]); first | done | rfl) ?_
          refine (HR.out w1.drew (Kd.C_below (Kd.C_below HC.out HB1.out) ((Below.refl _ _).drew))).mono ?_
          rintro r w9 ⟨rfl, hB⟩
          rw [← HQ.out]
          refine ⟨_, rfl, ?_⟩
          refine hK.out _ _ (hHeld.step hB) (fun hHeld1 => ?_)
          clear hK K
          refine norm_ (a' := ?_) ?_ ?_
          rotate_left
          · show Act.put _ (some 6) _ = _
            simp only [Act.put, List.setIfInBounds_toArray, List.set_cons_zero, List.set_cons_succ, i64_w, i32_w]
            rfl
          refine pure_ (i := 2) (N := some 7) (v := ?_) (a' := ?_) #[true, true, true, false, false, false, false, false, false, false, false, false, false, false, false, false, false, false, false, false, false, false] rfl rfl (by kernel_rfl) (fun _ _ _ h => h) (Or.inl ⟨by rfl, ?_⟩) ?_ ?_
          rotate_left
          · intro w'
            go_simp
            first | done | with_reducible rfl
          rotate_left
          · simp only [Act.put, List.setIfInBounds_toArray, List.set_cons_zero, List.set_cons_succ, i64_w, i32_w]
            rfl
          refine pure_ (i := 3) (N := some 8) (v := ?_) (a' := ?_) #[true, true, true, true, false, false, false, false, false, false, false, false, false, false, false, false, false, false, false, false, false, false] rfl rfl (by kernel_rfl) (fun _ _ _ h => h) (Or.inl ⟨by rfl, ?_⟩) ?_ ?_
          rotate_left
          · intro w'
            go_simp
            first | done | with_reducible rfl
          rotate_left
          · simp only [Act.put, List.setIfInBounds_toArray, List.set_cons_zero, List.set_cons_succ, i64_w, i32_w]
            rfl
          refine pure_ (i := 4) (N := some 9) (v := ?_) (a' := ?_) #[true, true, true, true, true, false, false, false, false, false, false, false, false, false, false, false, false, false, false, false, false, false] rfl rfl (by kernel_rfl) (fun _ _ _ h => h) (Or.inl ⟨by rfl, ?_⟩) ?_ ?_
          rotate_left
          · intro w'
            go_simp
            first | done | with_reducible rfl
          rotate_left
          · simp only [Act.put, List.setIfInBounds_toArray, List.set_cons_zero, List.set_cons_succ, i64_w, i32_w]
            rfl
          refine take_ (i := 5) (N := some 10) (v := ?_) (a' := ?_) #[true, true, true, true, true, true, false, false, false, false, false, false, false, false, false, false, false, false, false, false, false, false] rfl rfl (by kernel_rfl) (fun _ _ _ h => h) (Or.inl ⟨by rfl, ?_⟩) hHeld1 ?_ ?_
          rotate_left
          · rintro w' ⟨_, ⟨s0, s1, s2, s3, s4⟩, s5, s6, s7, s8⟩
            go_simp
            first | done | with_reducible rfl
          rotate_left
          · simp only [Act.put, List.setIfInBounds_toArray, List.set_cons_zero, List.set_cons_succ, i64_w, i32_w]
            rfl
          refine pure_ (i := 6) (N := some 11) (v := ?_) (a' := ?_) #[true, true, true, true, true, true, true, false, false, false, false, false, false, false, false, false, false, false, false, false, false, false] rfl rfl (by kernel_rfl) (fun _ _ _ h => h) (Or.inl ⟨by rfl, ?_⟩) ?_ ?_
          rotate_left
          · intro w'
            go_simp
            first | done | with_reducible rfl
          rotate_left
          · simp only [Act.put, List.setIfInBounds_toArray, List.set_cons_zero, List.set_cons_succ, i64_w, i32_w]
            rfl
          refine pure_ (i := 7) (N := some 12) (v := ?_) (a' := ?_) #[true, true, true, true, true, true, true, true, false, false, false, false, false, false, false, false, false, false, false, false, false, false] rfl rfl (by kernel_rfl) (fun _ _ _ h => h) (Or.inl ⟨by rfl, ?_⟩) ?_ ?_
          rotate_left
          · intro w'
            go_simp
            first | done | with_reducible rfl
          rotate_left
          · simp only [Act.put, List.setIfInBounds_toArray, List.set_cons_zero, List.set_cons_succ, i64_w, i32_w]
            rfl
          refine pure_ (i := 8) (N := some 13) (v := ?_) (a' := ?_) #[true, true, true, true, true, true, true, true, true, false, false, false, false, false, false, false, false, false, false, false, false, false] rfl rfl (by kernel_rfl) (fun _ _ _ h => h) (Or.inl ⟨by rfl, ?_⟩) ?_ ?_
          rotate_left
          · intro w'
            go_simp
            first | done | with_reducible rfl
          rotate_left
          · simp only [Act.put, List.setIfInBounds_toArray, List.set_cons_zero, List.set_cons_succ, i64_w, i32_w]
            rfl
          refine take_ (i := 9) (N := some 14) (v := ?_) (a' := ?_) #[true, true, true, true, true, true, true, true, true, true, false, false, false, false, false, false, false, false, false, false, false, false] rfl rfl (by kernel_rfl) (fun _ _ _ h => h) (Or.inl ⟨by rfl, ?_⟩) hHeld1 ?_ ?_
          rotate_left
          · rintro w' ⟨_, ⟨s0, s1, s2, s3, s4⟩, s5, s6, s7, s8⟩
            go_simp
            first | done | with_reducible rfl
          rotate_left
          · simp only [Act.put, List.setIfInBounds_toArray, List.set_cons_zero, List.set_cons_succ, i64_w, i32_w]
            rfl
          refine pure_ (i := 10) (N := some 15) (v := ?_) (a' := ?_) #[true, true, true, true, true, true, true, true, true, true, true, false, false, false, false, false, false, false, false, false, false, false] rfl rfl (by kernel_rfl) (fun _ _ _ h => h) (Or.inl ⟨by rfl, ?_⟩) ?_ ?_
          rotate_left
          · intro w'
            go_simp
            first | done | with_reducible rfl
          rotate_left
          · simp only [Act.put, List.setIfInBounds_toArray, List.set_cons_zero, List.set_cons_succ, i64_w, i32_w]
            rfl
          refine pure_ (i := 11) (N := some 16) (v := ?_) (a' := ?_) #[true, true, true, true, true, true, true, true, true, true, true, true, false, false, false, false, false, false, false, false, false, false] rfl rfl (by kernel_rfl) (fun _ _ _ h => h) (Or.inl ⟨by rfl, ?_⟩) ?_ ?_
          rotate_left
          · intro w'
            go_simp
            first | done | with_reducible rfl
          rotate_left
          · simp only [Act.put, List.setIfInBounds_toArray, List.set_cons_zero, List.set_cons_succ, i64_w, i32_w]
            rfl
          refine pure_ (i := 12) (N := some 17) (v := ?_) (a' := ?_) #[true, true, true, true, true, true, true, true, true, true, true, true, true, false, false, false, false, false, false, false, false, false] rfl rfl (by kernel_rfl) (fun _ _ _ h => h) (Or.inl ⟨by rfl, ?_⟩) ?_ ?_
          rotate_left
          · intro w'
            go_simp
            first | done | with_reducible rfl
          rotate_left
          · simp only [Act.put, List.setIfInBounds_toArray, List.set_cons_zero, List.set_cons_succ, i64_w, i32_w]
            rfl
          refine pure_ (i := 13) (N := some 18) (v := ?_) (a' := ?_) #[true, true, true, true, true, true, true, true, true, true, true, true, true, true, false, false, false, false, false, false, false, false] rfl rfl (by kernel_rfl) (fun _ _ _ h => h) (Or.inl ⟨by rfl, ?_⟩) ?_ ?_
          rotate_left
          · intro w'
            go_simp
            first | done | with_reducible rfl
          rotate_left
          · simp only [Act.put, List.setIfInBounds_toArray, List.set_cons_zero, List.set_cons_succ, i64_w, i32_w]
            rfl
          refine take_ (i := 14) (N := some 19) (v := ?_) (a' := ?_) #[true, true, true, true, true, true, true, true, true, true, true, true, true, true, true, false, false, false, false, false, false, false] rfl rfl (by kernel_rfl) (fun _ _ _ h => h) (Or.inl ⟨by rfl, ?_⟩) hHeld1 ?_ ?_
          rotate_left
          · rintro w' ⟨_, ⟨s0, s1, s2, s3, s4⟩, s5, s6, s7, s8⟩
            go_simp
            first | done | with_reducible rfl
          rotate_left
          · simp only [Act.put, List.setIfInBounds_toArray, List.set_cons_zero, List.set_cons_succ, i64_w, i32_w]
            rfl
          refine pure_ (i := 15) (N := some 20) (v := ?_) (a' := ?_) #[true, true, true, true, true, true, true, true, true, true, true, true, true, true, true, true, false, false, false, false, false, false] rfl rfl (by kernel_rfl) (fun _ _ _ h => h) (Or.inl ⟨by rfl, ?_⟩) ?_ ?_
          rotate_left
          · intro w'
            go_simp
            first | done | with_reducible rfl
          rotate_left
          · simp only [Act.put, List.setIfInBounds_toArray, List.set_cons_zero, List.set_cons_succ, i64_w, i32_w]
            rfl
          refine pure_ (i := 16) (N := some 21) (v := ?_) (a' := ?_) #[true, true, true, true, true, true, true, true, true, true, true, true, true, true, true, true, true, false, false, false, false, false] rfl rfl (by kernel_rfl) (fun _ _ _ h => h) (Or.inl ⟨by rfl, ?_⟩) ?_ ?_
          rotate_left
          · intro w'
            go_simp
            first | done | with_reducible rfl
          rotate_left
          · simp only [Act.put, List.setIfInBounds_toArray, List.set_cons_zero, List.set_cons_succ, i64_w, i32_w]
            rfl
          refine pure_ (i := 17) (N := some 22) (v := ?_) (a' := ?_) #[true, true, true, true, true, true, true, true, true, true, true, true, true, true, true, true, true, true, false, false, false, false] rfl rfl (by kernel_rfl) (fun _ _ _ h => h) (Or.inl ⟨by rfl, ?_⟩) ?_ ?_
          rotate_left
          · intro w'
            go_simp
            first | done | with_reducible rfl
          rotate_left
          · simp only [Act.put, List.setIfInBounds_toArray, List.set_cons_zero, List.set_cons_succ, i64_w, i32_w]
            rfl
          refine take_ (i := 18) (N := some 23) (v := ?_) (a' := ?_) #[true, true, true, true, true, true, true, true, true, true, true, true, true, true, true, true, true, true, true, false, false, false] rfl rfl (by kernel_rfl) (fun _ _ _ h => h) (Or.inl ⟨by rfl, ?_⟩) hHeld1 ?_ ?_
          rotate_left
          · rintro w' ⟨_, ⟨s0, s1, s2, s3, s4⟩, s5, s6, s7, s8⟩
            go_simp
            first | done | with_reducible rfl
          rotate_left
          · simp only [Act.put, List.setIfInBounds_toArray, List.set_cons_zero, List.set_cons_succ, i64_w, i32_w]
            rfl
          refine pure_ (i := 19) (N := some 24) (v := ?_) (a' := ?_) #[true, true, true, true, true, true, true, true, true, true, true, true, true, true, true, true, true, true, true, true, false, false] rfl rfl (by kernel_rfl) (fun _ _ _ h => h) (Or.inl ⟨by rfl, ?_⟩) ?_ ?_
          rotate_left
          · intro w'
            go_simp
            first | done | with_reducible rfl
          rotate_left
          · simp only [Act.put, List.setIfInBounds_toArray, List.set_cons_zero, List.set_cons_succ, i64_w, i32_w]
            rfl
          refine pure_ (i := 20) (N := some 25) (v := ?_) (a' := ?_) #[true, true, true, true, true, true, true, true, true, true, true, true, true, true, true, true, true, true, true, true, true, false] rfl rfl (by kernel_rfl) (fun _ _ _ h => h) (Or.inl ⟨by rfl, ?_⟩) ?_ ?_
          rotate_left
          · intro w'
            go_simp
            first | done | with_reducible rfl
          rotate_left
          · simp only [Act.put, List.setIfInBounds_toArray, List.set_cons_zero, List.set_cons_succ, i64_w, i32_w]
            rfl
          refine tail_list 21 (t := [21]) (fuel := 0) rfl rfl rfl (by kernel_rfl) (by decide) ?_
          have HB9 := Lib.hid hHeld1
          go_wp2_with fail
          go_ret
          unfold takeE
          rw [HNO.out, if_neg (by simp)]
          refine ⟨by simp, ?_⟩
          exact HE.out.put H1.out e.there HB9.out.1.1 HB9.out.1.2.2
    · have hep' : (x.f0 != e.ep) = true := by rw [bne_iff_ne]; exact hep
      have HNO := Lib.hid (show takeOk e x = false from by unfold takeOk; rw [decide_eq_false hep]; simp)
      clear hep
      refine start_ (S := TkS w 77 g w.heap.size x (.slice A n c) e (.slice As m cs) (.slice Ac mc cc)) (ds := [21]) (n := 22) #[false, false, false, false, false, false, false, false, false, false, false, false, false, false, false, false, false, false, false, false, false, false] rfl rfl rfl ?hS0 (fun hHeld => ?hrun)
      case hS0 => exact HT1.out.drew
      case hrun =>
        refine take_ (i := 0) (N := some 5) (v := ?_) (a' := ?_) #[true, false, false, false, false, false, false, false, false, false, false, false, false, false, false, false, false, false, false, false, false, false] rfl rfl (by kernel_rfl) (fun _ _ _ h => h) (Or.inl ⟨by rfl, ?_⟩) hHeld ?_ ?_
        rotate_left
        · rintro w' ⟨_, ⟨s0, s1, s2, s3, s4⟩, s5, s6, s7, s8⟩
          go_simp
          first | done | with_reducible rfl
        rotate_left
        · simp only [Act.put, List.setIfInBounds_toArray, List.set_cons_zero, List.set_cons_succ, i64_w, i32_w]
          rfl
        refine one_ (i := 1) (N := some 6) #[true, true, false, false, false, false, false, false, false, false, false, false, false, false, false, false, false, false, false, false, false, false] rfl rfl (by kernel_rfl) (by decide) (fun K hK => ?_)
        refine goes_ Tryd.func34 (by kernel_rfl) rfl #[.agg #[.int .i64 x.f0, .int .i64 x.f1, .bool x.f2, .int .i64 x.f3, .slice A n c]] (by rfl) rfl rfl (by (try simp only [List.map_toArray, List.map_cons, List.map_nil]); first | done | rfl) ?_
        refine (HR.out w1.drew (Kd.C_below (Kd.C_below HC.out HB1.out) ((Below.refl _ _).drew))).mono ?_
        rintro r w9 ⟨rfl, hB⟩
        rw [← HQ.out]
        refine ⟨_, rfl, ?_⟩
        refine hK.out _ _ (hHeld.step hB) (fun hHeld1 => ?_)
        clear hK K
        refine norm_ (a' := ?_) ?_ ?_
        rotate_left
        · show Act.put _ (some 6) _ = _
          simp only [Act.put, List.setIfInBounds_toArray, List.set_cons_zero, List.set_cons_succ, i64_w, i32_w]
          rfl
        refine pure_ (i := 2) (N := some 7) (v := ?_) (a' := ?_) #[true, true, true, false, false, false, false, false, false, false, false, false, false, false, false, false, false, false, false, false, false, false] rfl rfl (by kernel_rfl) (fun _ _ _ h => h) (Or.inl ⟨by rfl, ?_⟩) ?_ ?_
        rotate_left
        · intro w'
          go_simp
          first | done | with_reducible rfl
        rotate_left
        · simp only [Act.put, List.setIfInBounds_toArray, List.set_cons_zero, List.set_cons_succ, i64_w, i32_w]
          rfl
        refine pure_ (i := 3) (N := some 8) (v := ?_) (a' := ?_) #[true, true, true, true, false, false, false, false, false, false, false, false, false, false, false, false, false, false, false, false, false, false] rfl rfl (by kernel_rfl) (fun _ _ _ h => h) (Or.inl ⟨by rfl, ?_⟩) ?_ ?_
        rotate_left
        · intro w'
          go_simp
          first | done | with_reducible rfl
        rotate_left
        · simp only [Act.put, List.setIfInBounds_toArray, List.set_cons_zero, List.set_cons_succ, i64_w, i32_w]
          rfl
        refine pure_ (i := 4) (N := some 9) (v := ?_) (a' := ?_) #[true, true, true, true, true, false, false, false, false, false, false, false, false, false, false, false, false, false, false, false, false, false] rfl rfl (by kernel_rfl) (fun _ _ _ h => h) (Or.inl ⟨by rfl, ?_⟩) ?_ ?_
        rotate_left
        · intro w'
          go_simp
          first | done | with_reducible rfl
        rotate_left
        · simp only [Act.put, List.setIfInBounds_toArray, List.set_cons_zero, List.set_cons_succ, i64_w, i32_w]
          rfl
        refine take_ (i := 5) (N := some 10) (v := ?_) (a' := ?_) #[true, true, true, true, true, true, false, false, false, false, false, false, false, false, false, false, false, false, false, false, false, false] rfl rfl (by kernel_rfl) (fun _ _ _ h => h) (Or.inl ⟨by rfl, ?_⟩) hHeld1 ?_ ?_
        rotate_left
        · rintro w' ⟨_, ⟨s0, s1, s2, s3, s4⟩, s5, s6, s7, s8⟩
          go_simp
          first | done | with_reducible rfl
        rotate_left
        · simp only [Act.put, List.setIfInBounds_toArray, List.set_cons_zero, List.set_cons_succ, i64_w, i32_w]
          rfl
        refine pure_ (i := 6) (N := some 11) (v := ?_) (a' := ?_) #[true, true, true, true, true, true, true, false, false, false, false, false, false, false, false, false, false, false, false, false, false, false] rfl rfl (by kernel_rfl) (fun _ _ _ h => h) (Or.inl ⟨by rfl, ?_⟩) ?_ ?_
        rotate_left
        · intro w'
          go_simp
          first | done | with_reducible rfl
        rotate_left
        · simp only [Act.put, List.setIfInBounds_toArray, List.set_cons_zero, List.set_cons_succ, i64_w, i32_w]
          rfl
        refine pure_ (i := 7) (N := some 12) (v := ?_) (a' := ?_) #[true, true, true, true, true, true, true, true, false, false, false, false, false, false, false, false, false, false, false, false, false, false] rfl rfl (by kernel_rfl) (fun _ _ _ h => h) (Or.inl ⟨by rfl, ?_⟩) ?_ ?_
        rotate_left
        · intro w'
          go_simp
          first | done | with_reducible rfl
        rotate_left
        · simp only [Act.put, List.setIfInBounds_toArray, List.set_cons_zero, List.set_cons_succ, i64_w, i32_w]
          rfl
        refine pure_ (i := 8) (N := some 13) (v := ?_) (a' := ?_) #[true, true, true, true, true, true, true, true, true, false, false, false, false, false, false, false, false, false, false, false, false, false] rfl rfl (by kernel_rfl) (fun _ _ _ h => h) (Or.inl ⟨by rfl, ?_⟩) ?_ ?_
        rotate_left
        · intro w'
          go_simp
          first | done | with_reducible rfl
        rotate_left
        · simp only [Act.put, List.setIfInBounds_toArray, List.set_cons_zero, List.set_cons_succ, i64_w, i32_w]
          rfl
        refine take_ (i := 9) (N := some 14) (v := ?_) (a' := ?_) #[true, true, true, true, true, true, true, true, true, true, false, false, false, false, false, false, false, false, false, false, false, false] rfl rfl (by kernel_rfl) (fun _ _ _ h => h) (Or.inl ⟨by rfl, ?_⟩) hHeld1 ?_ ?_
        rotate_left
        · rintro w' ⟨_, ⟨s0, s1, s2, s3, s4⟩, s5, s6, s7, s8⟩
          go_simp
          first | done | with_reducible rfl
        rotate_left
        · simp only [Act.put, List.setIfInBounds_toArray, List.set_cons_zero, List.set_cons_succ, i64_w, i32_w]
          rfl
        refine pure_ (i := 10) (N := some 15) (v := ?_) (a' := ?_) #[true, true, true, true, true, true, true, true, true, true, true, false, false, false, false, false, false, false, false, false, false, false] rfl rfl (by kernel_rfl) (fun _ _ _ h => h) (Or.inl ⟨by rfl, ?_⟩) ?_ ?_
        rotate_left
        · intro w'
          go_simp
          first | done | with_reducible rfl
        rotate_left
        · simp only [Act.put, List.setIfInBounds_toArray, List.set_cons_zero, List.set_cons_succ, i64_w, i32_w]
          rfl
        refine pure_ (i := 11) (N := some 16) (v := ?_) (a' := ?_) #[true, true, true, true, true, true, true, true, true, true, true, true, false, false, false, false, false, false, false, false, false, false] rfl rfl (by kernel_rfl) (fun _ _ _ h => h) (Or.inl ⟨by rfl, ?_⟩) ?_ ?_
        rotate_left
        · intro w'
          go_simp
          first | done | with_reducible rfl
        rotate_left
        · simp only [Act.put, List.setIfInBounds_toArray, List.set_cons_zero, List.set_cons_succ, i64_w, i32_w]
          rfl
        refine pure_ (i := 12) (N := some 17) (v := ?_) (a' := ?_) #[true, true, true, true, true, true, true, true, true, true, true, true, true, false, false, false, false, false, false, false, false, false] rfl rfl (by kernel_rfl) (fun _ _ _ h => h) (Or.inl ⟨by rfl, ?_⟩) ?_ ?_
        rotate_left
        · intro w'
          go_simp
          first | done | with_reducible rfl
        rotate_left
        · simp only [Act.put, List.setIfInBounds_toArray, List.set_cons_zero, List.set_cons_succ, i64_w, i32_w]
          rfl
        refine pure_ (i := 13) (N := some 18) (v := undef) (a' := ?_) #[true, true, true, true, true, true, true, true, true, true, true, true, true, true, false, false, false, false, false, false, false, false] rfl rfl (by kernel_rfl) (fun _ _ _ h => h) (Or.inr ⟨by rfl, rfl⟩) ?_ ?_
        rotate_left
        · simp only [Act.put, List.setIfInBounds_toArray, List.set_cons_zero, List.set_cons_succ, i64_w, i32_w]
          rfl
        refine pure_ (i := 14) (N := some 19) (v := undef) (a' := ?_) #[true, true, true, true, true, true, true, true, true, true, true, true, true, true, true, false, false, false, false, false, false, false] rfl rfl (by kernel_rfl) (fun _ _ _ h => h) (Or.inr ⟨by rfl, rfl⟩) ?_ ?_
        rotate_left
        · simp only [Act.put, List.setIfInBounds_toArray, List.set_cons_zero, List.set_cons_succ, i64_w, i32_w]
          rfl
        refine pure_ (i := 15) (N := some 20) (v := undef) (a' := ?_) #[true, true, true, true, true, true, true, true, true, true, true, true, true, true, true, true, false, false, false, false, false, false] rfl rfl (by kernel_rfl) (fun _ _ _ h => h) (Or.inr ⟨by rfl, rfl⟩) ?_ ?_
        rotate_left
        · simp only [Act.put, List.setIfInBounds_toArray, List.set_cons_zero, List.set_cons_succ, i64_w, i32_w]
          rfl
        refine pure_ (i := 16) (N := some 21) (v := undef) (a' := ?_) #[true, true, true, true, true, true, true, true, true, true, true, true, true, true, true, true, true, false, false, false, false, false] rfl rfl (by kernel_rfl) (fun _ _ _ h => h) (Or.inr ⟨by rfl, rfl⟩) ?_ ?_
        rotate_left
        · simp only [Act.put, List.setIfInBounds_toArray, List.set_cons_zero, List.set_cons_succ, i64_w, i32_w]
          rfl
        refine pure_ (i := 17) (N := some 22) (v := undef) (a' := ?_) #[true, true, true, true, true, true, true, true, true, true, true, true, true, true, true, true, true, true, false, false, false, false] rfl rfl (by kernel_rfl) (fun _ _ _ h => h) (Or.inr ⟨by rfl, rfl⟩) ?_ ?_
        rotate_left
        · simp only [Act.put, List.setIfInBounds_toArray, List.set_cons_zero, List.set_cons_succ, i64_w, i32_w]
          rfl
        refine pure_ (i := 18) (N := some 23) (v := undef) (a' := ?_) #[true, true, true, true, true, true, true, true, true, true, true, true, true, true, true, true, true, true, true, false, false, false] rfl rfl (by kernel_rfl) (fun _ _ _ h => h) (Or.inr ⟨by rfl, rfl⟩) ?_ ?_
        rotate_left
        · simp only [Act.put, List.setIfInBounds_toArray, List.set_cons_zero, List.set_cons_succ, i64_w, i32_w]
          rfl
        refine pure_ (i := 19) (N := some 24) (v := undef) (a' := ?_) #[true, true, true, true, true, true, true, true, true, true, true, true, true, true, true, true, true, true, true, true, false, false] rfl rfl (by kernel_rfl) (fun _ _ _ h => h) (Or.inr ⟨by rfl, rfl⟩) ?_ ?_
        rotate_left
        · simp only [Act.put, List.setIfInBounds_toArray, List.set_cons_zero, List.set_cons_succ, i64_w, i32_w]
          rfl
        refine pure_ (i := 20) (N := some 25) (v := undef) (a' := ?_) #[true, true, true, true, true, true, true, true, true, true, true, true, true, true, true, true, true, true, true, true, true, false] rfl rfl (by kernel_rfl) (fun _ _ _ h => h) (Or.inr ⟨by rfl, rfl⟩) ?_ ?_
        rotate_left
        · simp only [Act.put, List.setIfInBounds_toArray, List.set_cons_zero, List.set_cons_succ, i64_w, i32_w]
          rfl
        refine tail_list 21 (t := [21]) (fuel := 0) rfl rfl rfl (by kernel_rfl) (by decide) ?_
        have HB9 := Lib.hid hHeld1
        go_wp2_with fail
        go_ret
        unfold takeE
        rw [HNO.out, if_neg (by simp)]
        refine ⟨by simp, ?_⟩
        exact HE.out.put H1.out e.there HB9.out.1.1 HB9.out.1.2.2
end Go.Proofs.YthfgkkpibkkiaaaDoor
