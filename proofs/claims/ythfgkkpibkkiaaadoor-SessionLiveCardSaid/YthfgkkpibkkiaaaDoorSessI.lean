/- Two ends in memory; the live question. -/
import Derived.Test.YthfgkkpibkkiaaaDoorSessH
set_option linter.unusedVariables false
set_option linter.unusedSimpArgs false
namespace Go.Proofs.YthfgkkpibkkiaaaDoor
open Go.RowKit Go.Proofs.YthfgkkpibkkiaaaDoorW.PrintWords Go.Proofs.YthfgkkpibkkiaaaDoorW.PrintLast Go.Proofs.YthfgkkpibkkiaaaDoor.PSessionPlays

/-- A text that the program writes out. -/
theorem lit_C (w : World) (l : List Int) (t : TypeId) (fr : Nat × Nat) (n : Nat) (hn : l.length = n) (hl : n ≤ 1000000) (hp : 0 ≤ n) : Kd.C (Kd.int .u8) (w.alloc (.cells (l.map (Value.int .u8)).toArray t fr)) (some ⟨w.heap.size, 0, none⟩) n l := by
  refine Kd.C_of_reads (d := (0 : Int)) ⟨hn, by omega, fun _ => ⟨_, rfl, fun j hj => ?_⟩⟩
  rw [show (⟨w.heap.size, 0, none⟩ : Addr).add j = ⟨w.heap.size, j, none⟩ by cases j <;> simp [Addr.add]]
  rw [Joins.cell_alloc_mark_at w _ _ _ _ _ rfl]
  simp [List.getElem?_eq_getElem (show j < l.length by omega), List.getD_eq_getElem?_getD]
theorem EndAt.lower {T : TypeId} {w : World} {base base' g : Nat} {S : Nat → Prop} {e : E} (h : EndAt T w base g S e) (hb : base' ≤ base) : EndAt T w base' g S e := by
  obtain ⟨vs, vc, Ss, Sc, h1, h2, h3, h4, h5⟩ := h.row
  exact ⟨⟨vs, vc, Ss, Sc, h1, Kd.R_lower h2 hb, Kd.R_lower h3 hb, h4, h5⟩, fun k hk => ⟨(h.lt k hk).1, Nat.le_trans hb (h.lt k hk).2⟩, h.own⟩
/-- Two ends, apart, made since w0. -/
structure Two (T : TypeId) (w0 w : World) (g1 g2 : Nat) (e1 e2 : E) : Prop where
  hB : Below w0.heap.size w0 w
  ex : ∃ S1 S2, EndAt T w w0.heap.size g1 S1 e1 ∧ EndAt T w w0.heap.size g2 S2 e2 ∧ ∀ k, S1 k → ¬ S2 k
section
variable {T : TypeId} {w0 w w' : World} {g1 g2 : Nat} {e1 e2 e' : E}
theorem Two.below (h : Two T w0 w g1 g2 e1 e2) (k : Below w.heap.size w w') : Two T w0 w' g1 g2 e1 e2 := by
  obtain ⟨S1, S2, h1, h2, h3⟩ := h.ex
  exact ⟨h.hB.trans (k.mono h.hB.size), S1, S2, h1.below k, h2.below k, h3⟩
theorem Two.swap (h : Two T w0 w g1 g2 e1 e2) : Two T w0 w g2 g1 e2 e1 := by
  obtain ⟨S1, S2, h1, h2, h3⟩ := h.ex
  exact ⟨h.hB, S2, S1, h2, h1, fun k hk h' => h3 k h' hk⟩
theorem Two.step {P : Program} {f : FuncId} {args : Array Value} {Q : Ending → World → Prop} (h : Two T w0 w g1 g2 e1 e2) (hc : ∀ S, EndAt T w w0.heap.size g1 S e1 → Calls P f args w fun r w' => Q r w' ∧ EndStep T w w' w0.heap.size g1 S e') :
    Calls P f args w fun r w' => Q r w' ∧ Two T w0 w' g1 g2 e' e2 ∧ w.heap.size ≤ w'.heap.size := by
  obtain ⟨S1, S2, h1, h2, h3⟩ := h.ex
  refine (hc S1 h1).mono ?_
  rintro r w' ⟨hq, S', k1, k2, k3⟩
  refine ⟨hq, ⟨h.hB.trans (k3.toBelow h.hB.size (fun i hi => (h1.lt i hi).2)), S', S2, k1, h2.turns k3 (fun i hi hi' => h3 i hi' hi), fun k hk hk2 => ?_⟩, k3.size⟩
  rcases k2 k hk with h' | h'
  · exact h3 k h' hk2
  · have := (h2.lt k hk2).1
    omega
theorem Two.look {P : Program} {f : FuncId} {args : Array Value} {Q : Ending → World → Prop} (h : Two T w0 w g1 g2 e1 e2) (hc : ∀ S, EndAt T w w0.heap.size g1 S e1 → Calls P f args w Q) : Calls P f args w Q := by
  obtain ⟨S1, S2, h1, h2, h3⟩ := h.ex
  exact hc S1 h1
theorem Two.made {w1 w2 : World} (h1 : EndAt T w1 w0.heap.size g1 (fun k => k = g1) e1) (hB1 : Below w0.heap.size w0 w1) (h2 : EndAt T w2 w1.heap.size g2 (fun k => k = g2) e2) (hB2 : Below w1.heap.size w1 w2) : Two T w0 w2 g1 g2 e1 e2 :=
  ⟨hB1.trans (hB2.mono hB1.size), _, _, h1.below hB2, h2.lower hB1.size, fun k hk hk2 => by
    have a := (h1.lt k hk).1
    have b := (h2.lt k hk2).2
    omega⟩
end
theorem new_ok (ep : Int) (w : World) (h : okEp ep = true) : Calls Tryd.prog 17 #[.int .i64 ep] w fun r w' => ∃ g, r = .returned (.pointer (some ⟨g, 0, none⟩)) ∧ EndAt 77 w' w.heap.size g (fun k => k = g) ⟨ep, [], 0, []⟩ ∧ Below w.heap.size w w' := by
  refine (new_any ep w).mono ?_
  rintro r w' (⟨h', _⟩ | ⟨_, h'⟩)
  · rw [h] at h'; cases h'
  · exact h'
theorem new_no (ep : Int) (w : World) (h : okEp ep = false) : Calls Tryd.prog 17 #[.int .i64 ep] w fun r w' => r = .returned (.pointer none) ∧ Below w.heap.size w w' := by
  refine (new_any ep w).mono ?_
  rintro r w' (⟨_, h'⟩ | ⟨h', _⟩)
  · exact h'
  · rw [h] at h'; cases h'
theorem at0_24 {w : World} {A : Option Addr} {n : Nat} {x : S24} {xs : List S24} (h : Kd.C k24 w A n (x :: xs)) (hn : 0 < n) : ∃ ad A4 c4, A = some ad ∧ w.cell? ad = some (.int .i64 x.f0) ∧ w.cell? ⟨ad.block, ad.off + 1, none⟩ = some (.int .i64 x.f1) ∧ w.cell? ⟨ad.block, ad.off + 2, none⟩ = some (.bool x.f2) ∧ w.cell? ⟨ad.block, ad.off + 3, none⟩ = some (.int .i64 x.f3) ∧ w.cell? ⟨ad.block, ad.off + 4, none⟩ = some (.slice A4 x.f4.length c4) ∧ x.f4.length ≤ c4 ∧ (Kd.int .u8).C w A4 x.f4.length x.f4 := by
  obtain ⟨ad, A4, c4, e, h0, h1, h2, h3, h4, h5, h6⟩ := at_T24 h 0 (by omega) (by omega)
  exact ⟨ad, A4, c4, e, h0, h1, h2, h3, h4, h5, h6⟩
theorem at_kT {w : World} {A : Option Addr} {n : Nat} {xs : List (List Int)} (h : kT.C w A n xs) (i : Nat) (hi : i < n) : ∃ ad A1 c1, A = some ad ∧ w.cell? (ad.add i) = some (.slice A1 (xs.getD i []).length c1) ∧ (xs.getD i []).length ≤ c1 ∧ Kd.C (Kd.int .u8) w A1 (xs.getD i []).length (xs.getD i []) := by
  obtain ⟨ad, c, e, _, ⟨A1, c1, rfl, hle, hC⟩, hc⟩ := Kd.C_get h [] (i : Int) (by omega) (by omega)
  have h1 := hc 0 _ rfl
  rw [show kT.sz = 1 from rfl, Nat.mul_one, Nat.add_zero, Int.toNat_natCast] at h1
  rw [Int.toNat_natCast] at hle hC
  exact ⟨ad, A1, c1, e, h1, hle, hC⟩
theorem at0_kT {w : World} {A : Option Addr} {n : Nat} {x : List Int} {xs : List (List Int)} (h : kT.C w A n (x :: xs)) (hn : 0 < n) : ∃ ad A1 c1, A = some ad ∧ w.cell? ad = some (.slice A1 x.length c1) ∧ x.length ≤ c1 ∧ Kd.C (Kd.int .u8) w A1 x.length x := by
  obtain ⟨ad, A1, c1, e, h1, h2, h3⟩ := at_kT h 0 hn
  exact ⟨ad, A1, c1, e, h1, h2, h3⟩
def litL0 : List UInt8 := [51, 32, 49, 32, 50, 32, 49, 32, 120]
def litL1 : List UInt8 := [51, 32, 49, 32, 50, 32, 48, 32, 120]
theorem lit_t : ((strOfNums [116]).toList == [116]) = true := by
  have h := strOf_nmI [116]
  rw [show nmI [116] = [116] from rfl] at h
  rw [h, ByteArray.toList_eq]
  rfl
theorem lit_put1 : okF ⟨3, 1, true, 2, [120]⟩ = true := by kernel_rfl
theorem lit_put2 : putB ⟨3, 1, true, 2, [120]⟩ = nmI litL0 := by kernel_rfl
theorem lit_put : okF ⟨3, 1, true, 2, [120]⟩ = true ∧ putB ⟨3, 1, true, 2, [120]⟩ = nmI litL0 := ⟨lit_put1, lit_put2⟩
theorem lit_get2 : getE litL0 = 0 := by kernel_rfl
theorem lit_get3 : (getB litL0).f3 = 2 := by kernel_rfl
theorem lit_get0 : getE litL0 = 0 ∧ (getB litL0).f3 = 2 := ⟨lit_get2, lit_get3⟩
theorem lit_get1 : getE litL1 = 3 := by kernel_rfl
set_option maxRecDepth 100000 in
set_option maxHeartbeats 2000000 in
theorem head_any (w : World) (hG : Ground w) : Calls Tryd.prog 12 #[] w fun r w' => r = .returned (.bool true) ∧ Below w.heap.size w w' := by
  have HG := Lib.hid hG
  clear hG
  go_enter Tryd.func12, Tryd.ntmps12
  go_wp2_with fail
  rw [Lib.run_convert_bytes_const w 22 5 #[.int .u8 120] 1 1 Tryd.underlying22 Tryd.underlying5]
  simp only [Result.andThen]
  rw [Oper.upon_value]
  go_wp2_with fail
  obtain ⟨w1, hw1⟩ : ∃ w1, w1 = w.alloc (.cells #[.int .u8 120] 5 (1, 2)) := ⟨_, rfl⟩
  rw [← hw1]
  have hB1 : Below w.heap.size w w1 := by rw [hw1]; exact (Below.refl _ _).alloc (Nat.le_refl _) _
  have hC1 : Kd.C (Kd.int .u8) w1 (some ⟨w.heap.size, 0, none⟩) 1 [120] := by rw [hw1]; exact lit_C w [120] _ _ 1 rfl (by omega) (by omega)
  have hput := put_any ⟨3, 1, true, 2, [120]⟩ (some ⟨w.heap.size, 0, none⟩) 1 1 rfl w1 hC1 (Nat.le_refl _) (HG.out.below hB1)
  rw [lit_put.1, lit_put.2] at hput
  simp only [if_true] at hput
  have HP := Lib.hid hput
  have HB1 := Lib.hid hB1
  clear hput hC1 hw1 hB1
  refine HP.out.mono ?_
  rintro r w2 ⟨v, rfl, hR, hB⟩
  have HB2 := Lib.hid (HB1.out.trans (hB.mono HB1.out.size))
  obtain ⟨Ap, cp, rfl, hcp, hCp⟩ := Kd.R_reads hR
  rw [show (nmI litL0).length = 9 from rfl] at hcp hCp ⊢
  obtain ⟨adp, hadp⟩ : ∃ ad, Ap = some ad := by obtain ⟨ad, e, _⟩ := hCp.2.2 (by decide); exact ⟨ad, e⟩
  subst hadp
  have hget := get_any (some adp) 9 cp litL0 w2 hCp hcp (fun h => by cases h) rfl (by decide) (HG.out.below HB2.out)
  rw [lit_get0.1, lit_get0.2] at hget
  have HGET := Lib.hid hget
  have HCP := Lib.hid hCp
  clear HP hR hB hCp hget
  go_wp2_with fail
  refine HGET.out.mono ?_
  rintro r w3 ⟨vf, rfl, hR3, hB3⟩
  have HB3 := Lib.hid (HB2.out.trans (hB3.mono HB2.out.size))
  have HCP3 := Lib.hid (Kd.C_below HCP.out hB3)
  obtain ⟨x0, hx0⟩ : ∃ x, x = (getB litL0).f0 := ⟨_, rfl⟩
  obtain ⟨x1, hx1⟩ : ∃ x, x = (getB litL0).f1 := ⟨_, rfl⟩
  obtain ⟨x2, hx2⟩ : ∃ x, x = (getB litL0).f2 := ⟨_, rfl⟩
  rw [← hx0, ← hx1, ← hx2]
  obtain ⟨Af, cf, rfl⟩ := Kd.R_slice hR3
  clear HGET HCP hx0 hx1 hx2 hR3 hB3
  obtain ⟨nf, hnf⟩ : ∃ n, n = (getB litL0).f4.length := ⟨_, rfl⟩
  rw [← hnf]
  clear hnf
  go_wp2_with fail
  obtain ⟨w4, hw4⟩ : ∃ w4, w4 = w3.alloc (.cells #[.int .i64 x0, .int .i64 x1, .bool x2, .int .i64 2, .slice Af nf cf] 24) := ⟨_, rfl⟩
  have hz4 : w3.heap.size + 1 = w4.heap.size := by rw [hw4]; simp
  rw [← hw4, hz4]
  have hb4 : w4.heap[w3.heap.size]? = some (.cells #[.int .i64 x0, .int .i64 x1, .bool x2, .int .i64 2, .slice Af nf cf] 24 (0, 0)) := by rw [hw4]; exact heap_alloc_new w3 _
  have hB34 : Below w3.heap.size w3 w4 := by rw [hw4]; exact (Below.refl _ _).alloc (Nat.le_refl _) _
  have HB4 := Lib.hid (HB3.out.trans (hB34.mono HB3.out.size))
  have HCP4 := Lib.hid (Kd.C_below HCP3.out hB34)
  obtain ⟨b3, hb3⟩ : ∃ b, b = w3.heap.size := ⟨_, rfl⟩
  rw [← hb3] at hb4 ⊢
  have HF4 := Lib.hid hb4
  clear hB34 hw4 hz4 hb4 hb3
  rw [Lib.run_convert_bytes_const w4 22 5 #[.int .u8 51, .int .u8 32, .int .u8 49, .int .u8 32, .int .u8 50, .int .u8 32, .int .u8 48, .int .u8 32, .int .u8 120] 9 9 Tryd.underlying22 Tryd.underlying5]
  simp only [Result.andThen]
  rw [Oper.upon_value]
  go_wp2_with fail
  obtain ⟨w5, hw5⟩ : ∃ w5, w5 = w4.alloc (.cells #[.int .u8 51, .int .u8 32, .int .u8 49, .int .u8 32, .int .u8 50, .int .u8 32, .int .u8 48, .int .u8 32, .int .u8 120] 5 (9, 10)) := ⟨_, rfl⟩
  rw [← hw5]
  have hB45 : Below w4.heap.size w4 w5 := by rw [hw5]; exact (Below.refl _ _).alloc (Nat.le_refl _) _
  have HB5 := Lib.hid (HB4.out.trans (hB45.mono HB4.out.size))
  have hC5 : Kd.C (Kd.int .u8) w5 (some ⟨w4.heap.size, 0, none⟩) 9 (nmI litL1) := by rw [hw5]; exact lit_C w4 (nmI litL1) _ _ 9 rfl (by omega) (by omega)
  have hget := get_any (some ⟨w4.heap.size, 0, none⟩) 9 9 litL1 w5 hC5 (Nat.le_refl _) (fun h => by cases h) rfl (by decide) (HG.out.below HB5.out)
  rw [lit_get1] at hget
  have HGET := Lib.hid hget
  have HCP5 := Lib.hid (Kd.C_below HCP4.out hB45)
  have HF5 := Lib.hid (blk_below HF4.out hB45)
  clear hget hC5 hB45 hw5
  refine HGET.out.mono ?_
  rintro r w6 ⟨vg, rfl, hR6, hB6⟩
  have HB6 := Lib.hid (HB5.out.trans (hB6.mono HB5.out.size))
  have HCP6 := Lib.hid (Kd.C_below HCP5.out hB6)
  have HF6 := Lib.hid (blk_below HF5.out hB6)
  obtain ⟨y0, hy0⟩ : ∃ x, x = (getB litL1).f0 := ⟨_, rfl⟩
  obtain ⟨y1, hy1⟩ : ∃ x, x = (getB litL1).f1 := ⟨_, rfl⟩
  obtain ⟨y2, hy2⟩ : ∃ x, x = (getB litL1).f2 := ⟨_, rfl⟩
  obtain ⟨y3, hy3⟩ : ∃ x, x = (getB litL1).f3 := ⟨_, rfl⟩
  obtain ⟨Ag, cg, rfl⟩ := Kd.R_slice hR6
  obtain ⟨ng, hng⟩ : ∃ n, n = (getB litL1).f4.length := ⟨_, rfl⟩
  rw [← hy0, ← hy1, ← hy2, ← hy3, ← hng]
  clear HGET HCP5 HCP4 HCP3 HF4 HF5 hy0 hy1 hy2 hy3 hng hR6 hB6 HB1 HB2 HB3 HB4 HB5
  go_wp2_with fail
  obtain ⟨w7, hw7⟩ : ∃ w7, w7 = w6.alloc (.cells #[.int .i64 y0, .int .i64 y1, .bool y2, .int .i64 y3, .slice Ag ng cg] 24) := ⟨_, rfl⟩
  rw [← hw7]
  have hB67 : Below w6.heap.size w6 w7 := by rw [hw7]; exact (Below.refl _ _).alloc (Nat.le_refl _) _
  have HB7 := Lib.hid (HB6.out.trans (hB67.mono HB6.out.size))
  have HCP7 := Lib.hid (Kd.C_below HCP6.out hB67)
  have HF7 := Lib.hid (blk_below HF6.out hB67)
  clear hB67 hw7 HCP6 HF6 HB6
  refine (new_ok 1 w7 rfl).mono ?_
  rintro r w8 ⟨g1, rfl, hE1, hB8⟩
  have HE1 := Lib.hid hE1
  have HB8 := Lib.hid hB8
  clear hE1 hB8
  go_wp2_with fail
  refine (new_ok 1 w8 rfl).mono ?_
  rintro r w9 ⟨g2, rfl, hE2, hB9⟩
  have HT9 := Lib.hid (Two.made HE1.out HB8.out hE2 hB9)
  clear hE2 hB9 HE1 HB8
  go_wp2_with fail
  refine (new_no (-1) w9 rfl).mono ?_
  rintro r w10 ⟨rfl, hB10⟩
  have HT10 := Lib.hid (HT9.out.below hB10)
  clear hB10 HT9
  go_wp2_with fail
  rw [Lib.run_convert_bytes_const w10 22 5 #[.int .u8 116] 1 1 Tryd.underlying22 Tryd.underlying5]
  simp only [Result.andThen]
  rw [Oper.upon_value]
  go_wp2_with fail
  obtain ⟨w11, hw11⟩ : ∃ w11, w11 = w10.alloc (.cells #[.int .u8 116] 5 (1, 2)) := ⟨_, rfl⟩
  rw [← hw11]
  have hB11 : Below w10.heap.size w10 w11 := by rw [hw11]; exact (Below.refl _ _).alloc (Nat.le_refl _) _
  have hC11 : Kd.C (Kd.int .u8) w11 (some ⟨w10.heap.size, 0, none⟩) 1 [116] := by rw [hw11]; exact lit_C w10 [116] _ _ 1 rfl (by omega) (by omega)
  have hsend := (HT10.out.below hB11).step (fun S h => send_any w11 w7.heap.size g1 S ⟨1, [], 0, []⟩ h (by decide) (some ⟨w10.heap.size, 0, none⟩) 1 1 [116] rfl hC11 (Nat.le_refl _) (by omega))
  rw [show sendOk ⟨1, [], 0, []⟩ [116] = true from rfl, show sendE ⟨1, [], 0, []⟩ [116] = ⟨1, [[116]], 0, []⟩ from rfl] at hsend
  have HS := Lib.hid hsend
  clear hsend hC11 hB11 hw11 HT10
  refine HS.out.mono ?_
  rintro r w12 ⟨rfl, hT12, _⟩
  have HT12 := Lib.hid hT12
  clear hT12 HS
  go_wp2_with fail
  refine (HT12.out.look (fun S h => tick_any w12 w7.heap.size g1 S _ h (by decide) (by decide) (by decide) (by decide))).mono ?_
  rintro r w13 ⟨vl, rfl, hRl, hB13⟩
  rw [show tickE ⟨1, [[116]], 0, []⟩ = [⟨1, 0, true, 0, [116]⟩] from rfl] at hRl
  obtain ⟨Al, cl, rfl, hcl, hCl⟩ := Kd.R_reads hRl
  obtain ⟨al, Bl, dl, rfl, l0, l1, l2, l3, l4, l5, l6⟩ := at0_24 hCl (by decide)
  have HT13 := Lib.hid (HT12.out.below hB13)
  have HL := Lib.hid (And.intro l5 l6)
  clear hRl hB13 hCl hcl HT12 l5 l6
  go_wp2_with fail
  have htake := HT13.out.swap.step (fun S h => take_any w13 w7.heap.size g2 S _ h (by decide) (by decide) ⟨1, 0, true, 0, [116]⟩ Bl 1 dl rfl HL.out.2 HL.out.1 (by omega))
  rw [show takeOk ⟨1, [], 0, []⟩ ⟨1, 0, true, 0, [116]⟩ = true from rfl, show takeE ⟨1, [], 0, []⟩ ⟨1, 0, true, 0, [116]⟩ = ⟨1, [], 0, [[116]]⟩ from rfl] at htake
  have HTK := Lib.hid htake
  clear htake l0 l1 l2 l3 l4 HT13 HL
  refine HTK.out.mono ?_
  rintro r w14 ⟨rfl, hT14, _⟩
  have HT14 := Lib.hid hT14
  clear hT14 HTK
  go_wp2_with fail
  refine (HT14.out.look (fun S h => tick_any w14 w7.heap.size g2 S _ h (by decide) (by decide) (by decide) (by decide))).mono ?_
  rintro r w15 ⟨vk, rfl, hRk, hB15⟩
  rw [show tickE ⟨1, [], 0, [[116]]⟩ = [⟨1, 1, false, 0, []⟩] from rfl] at hRk
  obtain ⟨Ak, ck, rfl, hck, hCk⟩ := Kd.R_reads hRk
  obtain ⟨ak, Bk, dk, rfl, l0, l1, l2, l3, l4, l5, l6⟩ := at0_24 hCk (by decide)
  have HT15 := Lib.hid (HT14.out.below hB15)
  have HL := Lib.hid (And.intro l5 l6)
  clear hRk hB15 hCk hck HT14 l5 l6
  go_wp2_with fail
  have htake := HT15.out.swap.step (fun S h => take_any w15 w7.heap.size g1 S _ h (by decide) (by decide) ⟨1, 1, false, 0, []⟩ Bk 0 dk rfl HL.out.2 HL.out.1 (by omega))
  rw [show takeOk ⟨1, [[116]], 0, []⟩ ⟨1, 1, false, 0, []⟩ = true from rfl, show takeE ⟨1, [[116]], 0, []⟩ ⟨1, 1, false, 0, []⟩ = ⟨1, [[116]], 1, []⟩ from rfl] at htake
  have HTK := Lib.hid htake
  clear htake l0 l1 l2 l3 l4 HT15 HL
  refine HTK.out.mono ?_
  rintro r w16 ⟨rfl, hT16, _⟩
  have HT16 := Lib.hid hT16
  clear hT16 HTK
  go_wp2_with fail
  refine (HT16.out.swap.look (fun S h => got_any w16 w7.heap.size g2 S _ h (by decide) (by decide))).mono ?_
  rintro r w17 ⟨vg, rfl, hRg, hB17⟩
  have HT17 := Lib.hid (HT16.out.below hB17)
  obtain ⟨Av, cv, rfl, hcv, hCv⟩ := Kd.R_reads hRg
  have HCV := Lib.hid hCv
  have hF17 := HT17.out.hB.block b3 (blk_lt HF7.out)
  have hf3 := (cells5 (hF17.trans HF7.out)).2.2.2.1
  have hl3 : b3 < w17.heap.size := Nat.lt_of_lt_of_le (blk_lt HF7.out) HT17.out.hB.size
  have hC17 := Kd.C_below HCP7.out HT17.out.hB
  have HC17 := Lib.hid hC17
  clear hRg hB17 hCv HT16 hF17 hC17
  go_wp2_with fail
  rw [Kd.C_string (e := 5) Tryd.underlying22 Tryd.underlying5 Tryd.underlying9 HC17.out, strOf_nmI]
  simp only [Result.andThen]
  rw [Oper.upon_value]
  go_wp2_with fail
  refine (HT17.out.look (fun S h => done_any w17 w7.heap.size g1 S _ h)).mono ?_
  rintro r w18 ⟨rfl, hB18⟩
  have hC18 := Kd.C_below HCV.out hB18
  obtain ⟨av, Bv, dv, rfl, v0, v1, v2⟩ := at0_kT hC18 (by decide)
  rw [show ([116] : List Int).length = 1 from rfl] at v2
  have HV := Lib.hid v2
  have HB18 := Lib.hid (HT17.out.below hB18)
  clear hC18 v1 v2 hB18
  go_wp2_with fail
  rw [Kd.C_string (e := 5) Tryd.underlying22 Tryd.underlying5 Tryd.underlying9 HV.out]
  simp only [Result.andThen]
  rw [Oper.upon_value]
  go_wp2_with fail
  go_ret
  refine ⟨?_, HB7.out.trans (HB18.out.hB.mono HB7.out.size)⟩
  show Ending.returned (Value.bool ((strOfNums [116]).toList == [116])) = _
  rw [lit_t]
end Go.Proofs.YthfgkkpibkkiaaaDoor
