/- Get. -/
import Derived.Test.YthfgkkpibkkiaaaDoorSessG
set_option linter.unusedVariables false
set_option linter.unusedSimpArgs false
namespace Go.Proofs.YthfgkkpibkkiaaaDoor
open Go.RowKit Go.Proofs.YthfgkkpibkkiaaaDoorW.PrintWords Go.Proofs.YthfgkkpibkkiaaaDoorW.PrintLast Go.Proofs.YthfgkkpibkkiaaaDoor.PSessionPlays

section
variable {P : Program} {ops : Array Oper} {Q : Exit → Act → World → Prop}
/-- A call of a closure, by its contract. -/
theorem goesV_ {oi : Oper} {N : Option Tmp} {a : Act} {w : World} {K : Act → World → Prop} {f : FuncId} {fn : Func} {ar : Array Operand} {ts : Array TypeId} {o : Operand} {first cap : Array Value} (hf : P.funcs[f]? = some fn) (hname : (fn.name == "runtime.NumGoroutine") = false) (hb : fn.body.isSome = true) (args : Array Value)
    (hw : Region.wanted oi (yielded ops a.tmps) = true) (hN : oi.dst = N) (hop : oi.op = .call { callee := .value o, args := ar, argTypes := ts }) (ho : a.eval o = .func (.func f) first cap) (hargs : (first ++ ar.map a.eval) ++ cap = args)
    (h : Calls P f args w fun e w' => ∃ v, e = .returned v ∧ K (a.put N v) w') : if Region.wanted oi (yielded ops a.tmps) = true then Oper.wp P oi a w K Q else K (a.put N undef) w := by
  refine call_ f args hw hN ?_ h
  have he := enters_ hf hname hb args w
  rw [← hargs] at he ⊢
  unfold execOp
  simp only [hop, resolve, ho, Deferred.ofValue, pure_bind, invoke]
  exact he
end
theorem nextL_le (l : List UInt8) : (nextL l).length ≤ l.length := by
  unfold nextL nextB
  split
  · rename_i v t h
    split at h
    · split at h
      · split at h
        · cases h
        · cases h
          rw [List.length_drop]
          omega
      · cases h
    · cases h
  · exact Nat.le_refl _
theorem RestAt.step {w0 w w' : World} {rb : Nat} {l : List UInt8} (h : RestAt w0 w rb l) (hB : Below w.heap.size w w') : RestAt w0 w' rb l := by
  obtain ⟨A, n, c, h1, h2⟩ := h
  exact ⟨A, n, c, (hB.block rb (blk_lt h1)).trans h1, h2⟩
theorem RestAt.lt {w0 w : World} {rb : Nat} {l : List UInt8} (h : RestAt w0 w rb l) : rb < w.heap.size := by
  obtain ⟨A, n, c, h1, h2⟩ := h
  exact blk_lt h1
/-- Inside Get: the result's box b0, the rest's box b1. -/
structure GS (w W : World) (b0 b1 : Nat) (l : List UInt8) : Prop where
  hB : Below w.heap.size w W
  z : W.heap[b0]? = some (.cells #[.int .i64 0, .int .i64 0, .bool false, .int .i64 0, .slice none 0 0] 24 (0, 0))
  r : RestAt w W b1 l
  g0 : w.heap.size ≤ b0
  g1 : w.heap.size ≤ b1
  ne : b0 ≠ b1
section
variable {w W W' : World} {b0 b1 : Nat} {l l' : List UInt8}
theorem GS.below (h : GS w W b0 b1 l) (k : Below W.heap.size W W') : GS w W' b0 b1 l :=
  ⟨h.hB.trans (k.mono h.hB.size), (k.block b0 (blk_lt h.z)).trans h.z, h.r.step k, h.g0, h.g1, h.ne⟩
theorem GS.next (h : GS w W b0 b1 l) (k : Turns (fun k => k = b1) W W') (r : RestAt w W' b1 l') : GS w W' b0 b1 l' :=
  ⟨h.hB.trans (k.toBelow h.hB.size (fun i e => by subst e; exact h.g1)), (k.block b0 (blk_lt h.z) h.ne).trans h.z, r, h.g0, h.g1, h.ne⟩
theorem GS.set (h : GS w W b0 b1 l) {p : Addr} (h0 : p.block ≠ b0) (h1 : p.block ≠ b1) (hp : w.heap.size ≤ p.block) (u : Value) : GS w (W.setCell p u) b0 b1 l := by
  obtain ⟨A, n, c, r1, r2⟩ := h.r
  exact ⟨h.hB.trans ⟨rfl, rfl, rfl, by simp [World.setCell], fun k hk => Below.heap_setCell W p u k (by omega)⟩, blk_far h.z (Ne.symm h0) u, ⟨A, n, c, blk_far r1 (Ne.symm h1) u, r2⟩, h.g0, h.g1, h.ne⟩
theorem GS.call (h : GS w W b0 b1 l) (hG : Ground w) (hl : l.length ≤ 1000000) (v : Int) (l' : List UInt8) (hv : nextV l = v) (hl' : nextL l = l') :
    Calls Tryd.prog 36 #[.pointer (some ⟨b1, 0, none⟩)] W fun r W' => r = .returned (.int .i64 v) ∧ GS w W' b0 b1 l' ∧ Turns (fun k => k = b1) W W' := by
  subst hv hl'
  refine (next_any w W b1 l h.hB h.g1 h.r (hG.below h.hB) hl).mono ?_
  rintro r W' ⟨rfl, hr, ht⟩
  exact ⟨rfl, h.next ht hr, ht⟩
end
/-- The frame's box. -/
def FBox (w W : World) (b b0 b1 : Nat) (cs : Array Value) : Prop := W.heap[b]? = some (.cells cs 24 (0, 0)) ∧ b ≠ b0 ∧ b ≠ b1 ∧ w.heap.size ≤ b
section
variable {w W W' : World} {b b0 b1 : Nat} {cs : Array Value} {l : List UInt8}
theorem FBox.turn (h : FBox w W b b0 b1 cs) (k : Turns (fun k => k = b1) W W') : FBox w W' b b0 b1 cs := ⟨(k.block b (blk_lt h.1) h.2.2.1).trans h.1, h.2⟩
theorem FBox.below (h : FBox w W b b0 b1 cs) (k : Below W.heap.size W W') : FBox w W' b b0 b1 cs := ⟨(k.block b (blk_lt h.1)).trans h.1, h.2⟩
theorem FBox.set (h : FBox w W b b0 b1 cs) (i : Nat) (u : Value) : FBox w (W.setCell ⟨b, i, none⟩ u) b b0 b1 (cs.setIfInBounds i u) := ⟨blk_set h.1 i u, h.2⟩
theorem GS.box (h : GS w W b0 b1 l) (k : FBox w W b b0 b1 cs) (i : Nat) (u : Value) : GS w (W.setCell ⟨b, i, none⟩ u) b0 b1 l := h.set k.2.1 k.2.2.1 k.2.2.2 u
end
def getL1 (l : List UInt8) : List UInt8 := nextL l
def getL2 (l : List UInt8) : List UInt8 := nextL (nextL l)
def getL3 (l : List UInt8) : List UInt8 := nextL (nextL (nextL l))
def getL4 (l : List UInt8) : List UInt8 := nextL (nextL (nextL (nextL l)))
/-- What stands in the bytes, be it a frame or not. -/
def getF (l : List UInt8) : S24 := ⟨nextV l, nextV (getL1 l), nextV (getL3 l) == 1, nextV (getL2 l), nmI (getL4 l)⟩
def getOk (l : List UInt8) : Bool := okF (getF l) && decide (putB (getF l) = nmI l)
def getE (l : List UInt8) : Int := if getOk l then 0 else 3
def getB (l : List UInt8) : S24 := if getOk l then getF l else ⟨0, 0, false, 0, []⟩
theorem nmI_inj {a b : List UInt8} (h : nmI a = nmI b) : a = b := by
  have := congrArg Lib.bytesOf h
  rwa [bytesOf_nmI, bytesOf_nmI] at this
theorem str_inj {a b : List UInt8} (h : (⟨a.toArray⟩ : ByteArray).toList = (⟨b.toArray⟩ : ByteArray).toList) : a = b := by
  rw [ByteArray.toList_eq, ByteArray.toList_eq] at h
  exact h
theorem beq_nmI (a b : List UInt8) : ((strOfNums (nmI a)).toList == (strOfNums (nmI b)).toList) = decide (nmI a = nmI b) := by
  rw [strOf_nmI, strOf_nmI, Bool.eq_iff_iff, beq_iff_eq, decide_eq_true_iff]
  exact ⟨fun h => by rw [str_inj h], fun h => by rw [nmI_inj h]⟩
theorem putB_getF (l : List UInt8) : ∃ p, putB (getF l) = nmI p := ⟨_, (by unfold putB getF; exact (nmI_append _ _).symm)⟩
/-- A struct of five fields laid whole. -/
def set5 (w : World) (g : Nat) (a b c d f : Value) : World := ((((w.setCell ⟨g, 0, none⟩ a).setCell ⟨g, 1, none⟩ b).setCell ⟨g, 2, none⟩ c).setCell ⟨g, 3, none⟩ d).setCell ⟨g, 4, none⟩ f
theorem set5_blk {w : World} {g : Nat} {t : TypeId} {a0 b0 c0 d0 f0 : Value} (h : w.heap[g]? = some (.cells #[a0, b0, c0, d0, f0] t (0, 0))) (a b c d f : Value) : (set5 w g a b c d f).heap[g]? = some (.cells #[a, b, c, d, f] t (0, 0)) := by
  unfold set5
  exact blk_set (blk_set (blk_set (blk_set (blk_set h 0 a) 1 b) 2 c) 3 d) 4 f
theorem set5_turns (w : World) (g : Nat) (a b c d f : Value) : Turns (fun k => k = g) w (set5 w g a b c d f) := by
  unfold set5
  exact (((((Turns.refl (fun k => k = g) w).set (p := ⟨g, 0, none⟩) (.inl rfl) a).set (p := ⟨g, 1, none⟩) (.inl rfl) b).set (p := ⟨g, 2, none⟩) (.inl rfl) c).set (p := ⟨g, 3, none⟩) (.inl rfl) d).set (p := ⟨g, 4, none⟩) (.inl rfl) f
set_option maxRecDepth 100000 in
set_option maxHeartbeats 2000000 in
theorem get_any (A : Option Addr) (n c : Nat) (l : List UInt8) (w : World) (hC : Kd.C (Kd.int .u8) w A n (nmI l)) (hc : n ≤ c) (hA : A = none → c = 0) (hn : n = l.length) (hl : l.length ≤ 1000000) (hG : Ground w) :
    Calls Tryd.prog 15 #[.slice A n c] w fun r w' => ∃ v, r = .returned (.tuple #[.agg #[.int .i64 (getB l).f0, .int .i64 (getB l).f1, .bool (getB l).f2, .int .i64 (getB l).f3, v], .int .i64 (getE l)]) ∧ Kd.R (Kd.int .u8) 5 w' w.heap.size (fun _ => True) v (getB l).f4 ∧ Below w.heap.size w w' := by
  have HC := Lib.hid hC
  have HH := Lib.hid (And.intro hc (And.intro hA hn))
  have HG := Lib.hid hG
  clear hC hc hA hn hG
  go_enter Tryd.func15, Tryd.ntmps15
  go_upto_region 3 with (fail)
  obtain ⟨w1, hw1⟩ : ∃ w1, w1 = (w.alloc (.cells #[.int .i64 0, .int .i64 0, .bool false, .int .i64 0, .slice none 0 0] 24)).alloc (.cells #[.slice A n c] 22) := ⟨_, rfl⟩
  obtain ⟨b0, hb0⟩ : ∃ b0, b0 = w.heap.size := ⟨_, rfl⟩
  obtain ⟨b1, hb1⟩ : ∃ b1, b1 = w.heap.size + 1 := ⟨_, rfl⟩
  rw [← hw1, ← hb1, ← hb0]
  have hS1 : GS w w1 b0 b1 l := by
    subst hb0 hb1
    rw [hw1]
    refine ⟨((Below.refl _ _).alloc (Nat.le_refl _) _).alloc (by simp) _, ?_, ⟨A, n, c, ?_, HC.out, HH.out.1, HH.out.2.1, HH.out.2.2⟩, Nat.le_refl _, by omega, by omega⟩
    · rw [heap_alloc_old _ _ (by simp)]
      exact heap_alloc_new w _
    · have := heap_alloc_new (w.alloc (.cells #[.int .i64 0, .int .i64 0, .bool false, .int .i64 0, .slice none 0 0] 24)) (.cells #[.slice A n c] 22)
      simpa using this
  clear hw1 hb0 hb1
  have HS1 := Lib.hid hS1
  clear hS1
  go_wp2_with fail
  refine (GS.call HS1.out HG.out hl (nextV l) (getL1 l) rfl rfl).mono ?_
  rintro r w2 ⟨rfl, hS2, hT2⟩
  have HS2 := Lib.hid hS2
  clear hS2 hT2
  go_wp2_with fail
  obtain ⟨b2, hb2⟩ : ∃ b2, b2 = w2.heap.size := ⟨_, rfl⟩
  obtain ⟨w3, hw3⟩ : ∃ w3, w3 = w2.alloc (.cells #[.int .i64 (nextV l), .int .i64 0, .bool false, .int .i64 0, .slice none 0 0] 24) := ⟨_, rfl⟩
  rw [← hw3, ← hb2]
  have hF3 : FBox w w3 b2 b0 b1 #[.int .i64 (nextV l), .int .i64 0, .bool false, .int .i64 0, .slice none 0 0] := by
    have h1 := blk_lt HS2.out.z
    have h2 := HS2.out.r.lt
    have h3 := HS2.out.hB.size
    exact ⟨by rw [hw3, hb2]; exact heap_alloc_new w2 _, by omega, by omega, by omega⟩
  have hS3 : GS w w3 b0 b1 (getL1 l) := by rw [hw3]; exact HS2.out.below ((Below.refl _ _).alloc (Nat.le_refl _) _)
  have HF3 := Lib.hid hF3
  have HS3 := Lib.hid hS3
  clear hF3 hS3 hw3 hb2
  refine (GS.call HS3.out HG.out (Nat.le_trans (nextL_le l) hl) (nextV (getL1 l)) (getL2 l) rfl rfl).mono ?_
  rintro r w4 ⟨rfl, hS4, hT4⟩
  have hF4 := HF3.out.turn hT4
  have hk41 := blk_frozen hF4.1 1
  have HS4 := Lib.hid (hS4.box hF4 1 (.int .i64 (nextV (getL1 l))))
  have HF4 := Lib.hid (hF4.set 1 (.int .i64 (nextV (getL1 l))))
  have hc41 := blk_cell hF4.1 1
  clear hS4 hT4 hF4
  go_wp2_with fail
  obtain ⟨w5, hw5⟩ : ∃ w5, w5 = w4.setCell ⟨b2, 1, none⟩ (.int .i64 (nextV (getL1 l))) := ⟨_, rfl⟩
  rw [← hw5] at HS4 HF4 ⊢
  clear hw5 hk41 hc41
  refine (GS.call HS4.out HG.out (Nat.le_trans (Nat.le_trans (nextL_le _) (nextL_le l)) hl) (nextV (getL2 l)) (getL3 l) rfl rfl).mono ?_
  rintro r w6 ⟨rfl, hS6, hT6⟩
  have hF6 := HF4.out.turn hT6
  have hk63 := blk_frozen hF6.1 3
  have hc63 := blk_cell hF6.1 3
  have HS6 := Lib.hid (hS6.box hF6 3 (.int .i64 (nextV (getL2 l))))
  have HF6 := Lib.hid (hF6.set 3 (.int .i64 (nextV (getL2 l))))
  clear hS6 hT6 hF6
  go_wp2_with fail
  obtain ⟨w7, hw7⟩ : ∃ w7, w7 = w6.setCell ⟨b2, 3, none⟩ (.int .i64 (nextV (getL2 l))) := ⟨_, rfl⟩
  rw [← hw7] at HS6 HF6 ⊢
  clear hw7 hk63 hc63
  refine (GS.call HS6.out HG.out (Nat.le_trans (Nat.le_trans (nextL_le _) (Nat.le_trans (nextL_le _) (nextL_le l))) hl) (nextV (getL3 l)) (getL4 l) rfl rfl).mono ?_
  rintro r w8 ⟨rfl, hS8, hT8⟩
  have hF8 := HF6.out.turn hT8
  have hk82 := blk_frozen hF8.1 2
  have hc82 := blk_cell hF8.1 2
  have HS8 := Lib.hid (hS8.box hF8 2 (.bool (nextV (getL3 l) == 1)))
  have HF8 := Lib.hid (hF8.set 2 (.bool (nextV (getL3 l) == 1)))
  clear hS8 hT8 hF8
  go_upto_region 7 with (fail)
  obtain ⟨w9, hw9⟩ : ∃ w9, w9 = w8.setCell ⟨b2, 2, none⟩ (.bool (nextV (getL3 l) == 1)) := ⟨_, rfl⟩
  rw [← hw9] at HS8 HF8 ⊢
  clear hw9 hk82 hc82
  obtain ⟨A4, n4, c4, hb4, hC4, hc4, hA4, hn4⟩ := HS8.out.r
  have hrc8 : w9.cell? ⟨b1, 0, none⟩ = some (.slice A4 n4 c4) := by simpa using blk_cell hb4 0
  have hlt9 := HS8.out.r.lt
  have HC4 := Lib.hid hC4
  have HH4 := Lib.hid (And.intro hc4 (And.intro hA4 hn4))
  clear hb4 hC4 hc4 hA4 hn4
  go_wp2_with fail
  have hl4 : (getL4 l).length ≤ l.length := Nat.le_trans (nextL_le _) (Nat.le_trans (nextL_le _) (Nat.le_trans (nextL_le _) (nextL_le l)))
  have hlen : (nmI (getL4 l)).length = n4 := by rw [nmI_length]; exact HH4.out.2.2.symm
  have hcl := clone_any A4 c4 (nmI (getL4 l)) w9 (by rw [hlen]; exact Kd.C_below HC4.out HS8.out.hB) (by rw [hlen]; exact HH4.out.1) (by rw [nmI_length]; omega)
  rw [hlen] at hcl
  refine hcl.mono ?_
  rintro r wa ⟨v, rfl, hRa, hBa⟩
  have hFa := HF8.out.below hBa
  have HSa := Lib.hid (HS8.out.below hBa)
  have HRa := Lib.hid hRa
  obtain ⟨Aa, ca, rfl⟩ := Kd.R_slice hRa
  have hka4 := blk_frozen hFa.1 4
  have hca4 := blk_cell hFa.1 4
  have HFa := Lib.hid (hFa.set 4 (.slice Aa (nmI (getL4 l)).length ca))
  have HSb := Lib.hid (HSa.out.box hFa 4 (.slice Aa (nmI (getL4 l)).length ca))
  have HFa0 := Lib.hid hFa
  clear hcl hRa hBa hFa hrc8 hlt9
  go_upto_region 8 with (fail)
  have hCs : #[Value.slice Aa (nmI (getL4 l)).length ca].size = 1 := rfl
  clear hCs
  obtain ⟨wb, hwb⟩ : ∃ wb, wb = wa.setCell ⟨b2, 4, none⟩ (.slice Aa n4 ca) := ⟨_, rfl⟩
  rw [hlen] at HFa HSb HRa
  have hRb : Kd.R (Kd.int .u8) 5 wb w.heap.size (fun k => w9.heap.size ≤ k) (.slice Aa n4 ca) (nmI (getL4 l)) := by
    rw [hwb]
    have h9 := blk_lt HF8.out.1
    exact Kd.R_lower (Kd.R_far (Kd.R_mono (Kd.R_bound HRa.out) (fun k hk => hk.2.1)) (fun k hk => by show k ≠ b2; omega) _) HS8.out.hB.size
  rw [← hwb] at HFa HSb ⊢
  have hFb : FBox w wb b2 b0 b1 #[.int .i64 (nextV l), .int .i64 (nextV (getL1 l)), .bool (nextV (getL3 l) == 1), .int .i64 (nextV (getL2 l)), .slice Aa n4 ca] := HFa.out
  obtain ⟨k0, k1, k2, k3, k4⟩ := cells5 hFb.1
  have hlb := blk_lt hFb.1
  have HFb := Lib.hid hFb
  have HRb := Lib.hid hRb
  have hg := hFb.2.2.2
  have HLEN := Lib.hid hlen
  have hput : ∀ w', Below wb.heap.size wb w' → Calls Tryd.prog 14 #[.agg #[.int .i64 (nextV l), .int .i64 (nextV (getL1 l)), .bool (nextV (getL3 l) == 1), .int .i64 (nextV (getL2 l)), .slice Aa n4 ca]] w' fun r w'' => ∃ v, r = .returned (.tuple #[v, .int .i64 (if okF (getF l) then 0 else 1)]) ∧ Kd.R (Kd.int .u8) 5 w'' w'.heap.size (fun _ => True) v (if okF (getF l) then putB (getF l) else []) ∧ Below w'.heap.size w' w'' := by
    intro w' hB'
    obtain ⟨A', c', e', hc', hC'⟩ := Kd.R_reads hRb
    injection e' with e1 e2 e3
    subst e1 e3
    have hC2 := Kd.C_below hC' hB'
    rw [hlen] at hC2 hc'
    exact put_any (getF l) Aa n4 ca hlen w' hC2 hc' (HG.out.below ((HSb.out.hB).trans (hB'.mono HSb.out.hB.size)))
  have HPUT := Lib.hid hput
  clear hput hFb hRb HFa HFa0 hwb hlen hka4 hca4 HF3 HS3 HF4 HS4 HF6 HS6 HS1 HS2
  cases hq : okF (getF l) with
  | false =>
    simp only [hq, Bool.false_eq_true, if_false] at HPUT
    go_wp2_with fail
    refine (HPUT.out wb (Below.refl _ _)).mono ?_
    rintro r wc ⟨vp, rfl, hRc, hBc⟩
    have HRc := Lib.hid hRc
    have HSc := Lib.hid (HSb.out.below hBc)
    have HFc := Lib.hid (HFb.out.below hBc)
    have HBc := Lib.hid hBc
    obtain ⟨Ap, cp, rfl⟩ := Kd.R_slice hRc
    clear hRc hBc k0 k1 k2 k3 k4
    obtain ⟨z0, z1, z2, z3, z4⟩ := cells5 HSc.out.z
    have hz0 := blk_frozen HSc.out.z 0
    have hz1 := blk_frozen HSc.out.z 1
    have hz2 := blk_frozen HSc.out.z 2
    have hz3 := blk_frozen HSc.out.z 3
    have hz4 := blk_frozen HSc.out.z 4
    have hlz := blk_lt HSc.out.z
    go_wp2_with fail
    clear z0 z1 z2 z3 z4 hz0 hz1 hz2 hz3 hz4 hlz
    obtain ⟨we, hwe⟩ : ∃ we, we = set5 wc b0 (.int .i64 0) (.int .i64 0) (.bool false) (.int .i64 0) (.slice none 0 0) := ⟨_, rfl⟩
    unfold set5 at hwe
    rw [← hwe]
    have hwe' : we = set5 wc b0 (.int .i64 0) (.int .i64 0) (.bool false) (.int .i64 0) (.slice none 0 0) := hwe
    clear hwe
    have hze := set5_blk HSc.out.z (.int .i64 0) (.int .i64 0) (.bool false) (.int .i64 0) (.slice none 0 0)
    have hte := set5_turns wc b0 (.int .i64 0) (.int .i64 0) (.bool false) (.int .i64 0) (.slice none 0 0)
    rw [← hwe'] at hze hte
    obtain ⟨z0, z1, z2, z3, z4⟩ := cells5 hze
    have hlz := blk_lt hze
    have HX := Lib.hid (And.intro hte hwe')
    clear hze hte hwe'
    have hno : getOk l = false := by unfold getOk; rw [hq]; rfl
    have hE : getE l = 3 := by unfold getE; rw [hno]; rfl
    have hB : getB l = ⟨0, 0, false, 0, []⟩ := by unfold getB; rw [hno]; rfl
    refine bodyPost_ret (v := .tuple #[.agg #[.int .i64 0, .int .i64 0, .bool false, .int .i64 0, .slice none 0 0], .int .i64 3]) (by simp [results, Tryd.results15, go_sem, z0, z1, z2, z3, z4]) rfl ⟨.slice none 0 0, ?_, ?_, ?_⟩
    · rw [hE, hB]
    · rw [hB]; exact Kd.R_nil _ _ _ _ _
    · exact HSc.out.hB.trans (HX.out.1.toBelow HSc.out.hB.size (fun i e => by subst e; exact HSc.out.g0))
  | true =>
    simp only [hq, if_true] at HPUT
    go_wp2_with fail
    refine (HPUT.out wb (Below.refl _ _)).mono ?_
    rintro r wc ⟨vp, rfl, hRc, hBc⟩
    have HRc := Lib.hid hRc
    have HSc := Lib.hid (HSb.out.below hBc)
    have HFc := Lib.hid (HFb.out.below hBc)
    have HBc := Lib.hid hBc
    obtain ⟨Ap, cp, rfl⟩ := Kd.R_slice hRc
    clear hRc hBc k0 k1 k2 k3 k4
    obtain ⟨z0, z1, z2, z3, z4⟩ := cells5 HSc.out.z
    have hz0 := blk_frozen HSc.out.z 0
    have hz1 := blk_frozen HSc.out.z 1
    have hz2 := blk_frozen HSc.out.z 2
    have hz3 := blk_frozen HSc.out.z 3
    have hz4 := blk_frozen HSc.out.z 4
    have hlz := blk_lt HSc.out.z
    obtain ⟨p, hp⟩ := putB_getF l
    have hRp := HRc.out
    rw [hp] at hRp
    obtain ⟨A', c', e', hc', hC'⟩ := Kd.R_reads hRp
    injection e' with e1 e2 e3
    subst e1 e3
    have hlp : (putB (getF l)).length = (nmI p).length := by rw [hp]
    have heq : ∀ w', Below wc.heap.size wc w' → Calls Tryd.prog 40 #[.slice Ap (nmI p).length cp, .slice A n c] w' fun e w'' => e = .returned (.bool (decide (putB (getF l) = nmI l))) ∧ Drawn0 w' w'' := by
      intro w' hB'
      have hn := HH.out.2.2
      have hb := bytes_Equal.calls Ap cp (nmI p) A c (nmI l) (decide (putB (getF l) = nmI l)) w' (Kd.C_below hC' hB') hc' (by rw [nmI_length, ← hn]; exact Kd.C_below HC.out (HSc.out.hB.trans (hB'.mono HSc.out.hB.size))) (by rw [nmI_length, ← hn]; exact HH.out.1) (by unfold bytes_Equal.f; rw [beq_nmI, hp])
      rw [show (nmI l).length = n by rw [nmI_length, hn]] at hb
      exact hb
    rw [hlp]
    have HEQ := Lib.hid heq
    have HP := Lib.hid (And.intro hp hlp)
    clear heq hp hlp hRp hC' hc' e2
    obtain ⟨d, hd⟩ : ∃ d, d = decide (putB (getF l) = nmI l) := ⟨_, rfl⟩
    rw [← hd] at HEQ
    have HD := Lib.hid hd
    clear hd
    go_wp2_with fail
    refine (HEQ.out wc (Below.refl _ _)).mono ?_
    rintro r wd ⟨rfl, hDr⟩
    have hBd := hDr.below
    have HSd := Lib.hid (HSc.out.below hBd)
    have HFd := Lib.hid (HFc.out.below hBd)
    have HBd := Lib.hid hBd
    clear hDr hBd z0 z1 z2 z3 z4 hz0 hz1 hz2 hz3 hz4 hlz
    obtain ⟨z0, z1, z2, z3, z4⟩ := cells5 HSd.out.z
    have hz0 := blk_frozen HSd.out.z 0
    have hz1 := blk_frozen HSd.out.z 1
    have hz2 := blk_frozen HSd.out.z 2
    have hz3 := blk_frozen HSd.out.z 3
    have hz4 := blk_frozen HSd.out.z 4
    have hlz := blk_lt HSd.out.z
    cases d with
    | false =>
      go_wp2_with fail
      clear z0 z1 z2 z3 z4 hz0 hz1 hz2 hz3 hz4 hlz
      obtain ⟨we, hwe⟩ : ∃ we, we = set5 wd b0 (.int .i64 0) (.int .i64 0) (.bool false) (.int .i64 0) (.slice none 0 0) := ⟨_, rfl⟩
      unfold set5 at hwe
      rw [← hwe]
      have hwe' : we = set5 wd b0 (.int .i64 0) (.int .i64 0) (.bool false) (.int .i64 0) (.slice none 0 0) := hwe
      clear hwe
      have hze := set5_blk HSd.out.z (.int .i64 0) (.int .i64 0) (.bool false) (.int .i64 0) (.slice none 0 0)
      have hte := set5_turns wd b0 (.int .i64 0) (.int .i64 0) (.bool false) (.int .i64 0) (.slice none 0 0)
      rw [← hwe'] at hze hte
      obtain ⟨z0, z1, z2, z3, z4⟩ := cells5 hze
      have hlz := blk_lt hze
      have HX := Lib.hid (And.intro hte hwe')
      clear hze hte hwe'
      have hno : getOk l = false := by unfold getOk; rw [hq, ← HD.out]; rfl
      have hE : getE l = 3 := by unfold getE; rw [hno]; rfl
      have hB : getB l = ⟨0, 0, false, 0, []⟩ := by unfold getB; rw [hno]; rfl
      refine bodyPost_ret (v := .tuple #[.agg #[.int .i64 0, .int .i64 0, .bool false, .int .i64 0, .slice none 0 0], .int .i64 3]) (by simp [results, Tryd.results15, go_sem, z0, z1, z2, z3, z4]) rfl ⟨.slice none 0 0, ?_, ?_, ?_⟩
      · rw [hE, hB]
      · rw [hB]; exact Kd.R_nil _ _ _ _ _
      · exact HSd.out.hB.trans (HX.out.1.toBelow HSd.out.hB.size (fun i e => by subst e; exact HSd.out.g0))
    | true =>
      obtain ⟨k0, k1, k2, k3, k4⟩ := cells5 HFd.out.1
      have hlk := blk_lt HFd.out.1
      go_wp2_with fail
      clear z0 z1 z2 z3 z4 hz0 hz1 hz2 hz3 hz4 hlz
      obtain ⟨we, hwe⟩ : ∃ we, we = set5 wd b0 (.int .i64 (nextV l)) (.int .i64 (nextV (getL1 l))) (.bool (nextV (getL3 l) == 1)) (.int .i64 (nextV (getL2 l))) (.slice Aa n4 ca) := ⟨_, rfl⟩
      unfold set5 at hwe
      rw [← hwe]
      have hwe' : we = set5 wd b0 (.int .i64 (nextV l)) (.int .i64 (nextV (getL1 l))) (.bool (nextV (getL3 l) == 1)) (.int .i64 (nextV (getL2 l))) (.slice Aa n4 ca) := hwe
      clear hwe
      have hze := set5_blk HSd.out.z (.int .i64 (nextV l)) (.int .i64 (nextV (getL1 l))) (.bool (nextV (getL3 l) == 1)) (.int .i64 (nextV (getL2 l))) (.slice Aa n4 ca)
      have hte := set5_turns wd b0 (.int .i64 (nextV l)) (.int .i64 (nextV (getL1 l))) (.bool (nextV (getL3 l) == 1)) (.int .i64 (nextV (getL2 l))) (.slice Aa n4 ca)
      rw [← hwe'] at hze hte
      obtain ⟨z0, z1, z2, z3, z4⟩ := cells5 hze
      have hlz := blk_lt hze
      have HX := Lib.hid (And.intro hte hwe')
      clear hze hte hwe'
      have hok : getOk l = true := by unfold getOk; rw [hq, ← HD.out]; rfl
      have hE : getE l = 0 := by unfold getE; rw [hok]; rfl
      have hB : getB l = getF l := by unfold getB; rw [hok]; rfl
      refine bodyPost_ret (v := .tuple #[.agg #[.int .i64 (nextV l), .int .i64 (nextV (getL1 l)), .bool (nextV (getL3 l) == 1), .int .i64 (nextV (getL2 l)), .slice Aa n4 ca], .int .i64 0]) (by simp [results, Tryd.results15, go_sem, z0, z1, z2, z3, z4]) rfl ⟨.slice Aa n4 ca, ?_, ?_, ?_⟩
      · rw [hE, hB]; rfl
      · rw [hB, HX.out.2]
        have h1 : Kd.R (Kd.int .u8) 5 wd w.heap.size (fun k => w9.heap.size ≤ k) (.slice Aa n4 ca) (nmI (getL4 l)) := Kd.R_below (Kd.R_below HRb.out HBc.out) HBd.out
        have h9 : ∀ k, w9.heap.size ≤ k → k ≠ b0 := fun k hk => by have := blk_lt HS8.out.z; omega
        unfold set5
        exact Kd.R_mono (Kd.R_far (Kd.R_far (Kd.R_far (Kd.R_far (Kd.R_far h1 (fun k hk => h9 k hk) _) (fun k hk => h9 k hk) _) (fun k hk => h9 k hk) _) (fun k hk => h9 k hk) _) (fun k hk => h9 k hk) _) (fun _ _ => trivial)
      · exact HSd.out.hB.trans (HX.out.1.toBelow HSd.out.hB.size (fun i e => by subst e; exact HSd.out.g0))
end Go.Proofs.YthfgkkpibkkiaaaDoor
