/- NamedCut: its law. (mklaw13c.py wrote it.) -/
import Derived.Test.YtijfedahhgcfpaaDoorNamV
set_option linter.unusedVariables false
set_option linter.unusedSimpArgs false
namespace Go.Proofs.YtijfedahhgcfpaaDoor
open Go.RowKit Go.Proofs.YtijfedahhgcfpaaDoorW.PrintWords Go.Proofs.YtijfedahhgcfpaaDoorW.PrintLast

theorem infoU8N : (Tryd.prog.info? 5).map (fun i => (i.zero, i.size, i.bytes)) = some (some (.int .u8 0), 1, 1) := by kernel_rfl
theorem R_emptyB {W : World} {g base : Nat} (h : W.heap[g]? = some (.cells #[] 5 (0, 0))) (hg : base ≤ g) : (Kd.int .u8).R 5 W base (fun _ => True) (.slice (some ⟨g, 0, none⟩) 0 0) [] :=
  ⟨fun _ _ => trivial, [], ⟨rfl, .inr ⟨g, 0, #[], rfl, hg, h, Nat.le_refl _, by unfold maxLen; omega, rfl, rfl⟩⟩, ⟨rfl, fun j p hj => by simp at hj⟩⟩
theorem patE_ne (p : Pat) : 0 < (patE p).length := by
  have h1 := textE_lo p.name
  unfold patE
  simp only [List.length_append]
  omega
/-- Bytes that are cut. -/
theorem cut_none {p : Pat} (h : patOk p) (k : Nat) (hk : k < (patE p).length) : getP ((patE p).take k) = none ∧ ∀ q, patP ((patE p).take k) = some (q, []) → False := by
  have hne : (patE p).drop k ≠ [] := fun e => by
    have := congrArg List.length e
    rw [List.length_drop] at this
    simp at this
    omega
  refine ⟨getP_cut h (List.take_append_drop k _).symm hne, fun q hq => ?_⟩
  obtain ⟨h1, h2⟩ := codec_pat.dec _ _ _ hq
  rw [List.append_nil] at h2
  have h3 := codec_pat.enc q ((patE p).drop k) h1
  rw [← h2, List.take_append_drop] at h3
  exact hne (patP_enc h h3).2
theorem more_none {p : Pat} (h : patOk p) (c : UInt8) : getP (patE p ++ [c]) = none ∧ ∀ q, patP (patE p ++ [c]) = some (q, []) → False := by
  refine ⟨getP_more h (by simp), fun q hq => ?_⟩
  rw [codec_pat.enc p [c] h] at hq
  cases hq
theorem same_bytes {p q : Pat} (hp : patOk p) (hq : patOk q) : ((baN (patE p)).toList == (baN (patE q)).toList) = sameB p q := by
  rw [ByteArray.toList_eq, ByteArray.toList_eq, baN_list, baN_list, Bool.eq_iff_iff, beq_iff_eq, sameB_iff]
  exact ⟨fun h => patE_inj hp hq h, fun h => by rw [h]⟩
set_option maxRecDepth 100000 in
set_option maxHeartbeats 32000000 in
theorem cut_law (w : World) (x0 : Pat) (cs0 : Array Value) (hx0 : kPat.K w x0 cs0.toList) (hg0 : goodPat x0) (x1 : Pat) (cs1 : Array Value) (hx1 : kPat.K w x1 cs1.toList) (hg1 : goodPat x1) (cut : Int) (hcut : (Lit.int .u16 cut).wf = true) (more : Int) (hmore : (Lit.int .u8 more).wf = true) (hG : Ground w) :
    Calls Tryd.prog 4 #[.agg cs0, .agg cs1, .int .u16 cut, .int .u8 more] w fun e w' => e = .returned (.bool true) ∧ Below w.heap.size w w' := by
  have hcut01 : 0 ≤ cut ∧ cut ≤ 65535 := by
    have h : IntKind.u16.min ≤ cut ∧ cut ≤ IntKind.u16.max := by simpa [Lit.wf] using hcut
    have e1 : IntKind.u16.min = 0 := by decide
    have e2 : IntKind.u16.max = 65535 := by decide
    omega
  have hmr := wf_u8 hmore
  obtain ⟨Ad0, cd0, Ab0, cb0, rfl, hcd0, hD0, hcb0, hP0⟩ := pat_open hx0
  obtain ⟨p0, hp0⟩ : ∃ p, p = x0 := ⟨_, rfl⟩
  have hcap0 := hg0.cap
  rw [← hp0] at hD0 hP0 hcd0 hcb0 hcap0
  obtain ⟨nd0, hnd0⟩ : ∃ m, p0.deps.length = m := ⟨_, rfl⟩
  obtain ⟨nb0, hnb0⟩ : ∃ m, p0.body.length = m := ⟨_, rfl⟩
  rw [hnd0] at hD0 hcd0
  rw [hnb0] at hP0 hcb0
  rw [← hp0, hnd0, hnb0]
  have HD0 := Lib.hid (And.intro hnd0 (And.intro hnb0 (And.intro hD0 (And.intro hcd0 (And.intro hP0 hcb0)))))
  have HCAP0 := Lib.hid hcap0
  clear hx0 hg0 hcd0 hD0 hcb0 hP0 hnd0 hnb0 hp0 hcap0
  obtain ⟨Ad1, cd1, Ab1, cb1, rfl, hcd1, hD1, hcb1, hP1⟩ := pat_open hx1
  obtain ⟨p1, hp1⟩ : ∃ p, p = x1 := ⟨_, rfl⟩
  have hcap1 := hg1.cap
  rw [← hp1] at hD1 hP1 hcd1 hcb1 hcap1
  obtain ⟨nd1, hnd1⟩ : ∃ m, p1.deps.length = m := ⟨_, rfl⟩
  obtain ⟨nb1, hnb1⟩ : ∃ m, p1.body.length = m := ⟨_, rfl⟩
  rw [hnd1] at hD1 hcd1
  rw [hnb1] at hP1 hcb1
  rw [← hp1, hnd1, hnb1]
  have HD1 := Lib.hid (And.intro hnd1 (And.intro hnb1 (And.intro hD1 (And.intro hcd1 (And.intro hP1 hcb1)))))
  have HCAP1 := Lib.hid hcap1
  clear hx1 hg1 hcd1 hD1 hcb1 hP1 hnd1 hnb1 hp1 hcap1
  have HG := Lib.hid hG
  have HCM := Lib.hid (And.intro hcut01 hmr)
  clear hG hcut hmore hcut01 hmr
  obtain ⟨w0, hw0⟩ : ∃ w0, w0 = w.alloc (.cells #[.string p0.name, .slice Ad0 nd0 cd0, .slice Ab0 nb0 cb0] 25) := ⟨_, rfl⟩
  obtain ⟨w1, hw1⟩ : ∃ w1, w1 = w0.alloc (.cells #[.string p1.name, .slice Ad1 nd1 cd1, .slice Ab1 nb1 cb1] 25) := ⟨_, rfl⟩
  have hs0 : w0.heap.size = w.heap.size + 1 := by rw [hw0]; simp
  have hB0 : Below w.heap.size w w0 := by rw [hw0]; exact (Below.refl _ _).alloc (Nat.le_refl _) _
  have hb0 : w0.heap[w.heap.size]? = some (.cells #[.string p0.name, .slice Ad0 nd0 cd0, .slice Ab0 nb0 cb0] 25 (0, 0)) := by rw [hw0]; exact heap_alloc_new w _
  have hB01 : Below w0.heap.size w0 w1 := by rw [hw1]; exact (Below.refl _ _).alloc (Nat.le_refl _) _
  have hb1 : w1.heap[w.heap.size + 1]? = some (.cells #[.string p1.name, .slice Ad1 nd1 cd1, .slice Ab1 nb1 cb1] 25 (0, 0)) := by rw [hw1, ← hs0]; exact heap_alloc_new w0 _
  have HW := Lib.hid (And.intro hw0 hw1)
  have HB1 := Lib.hid (And.intro (hB0.trans (hB01.mono hB0.size)) (And.intro (blk_below hb0 hB01) hb1))
  clear hw0 hw1 hB0 hb0 hB01 hb1 hs0
  go_enter Tryd.func4, Tryd.ntmps4
  go_wp2_with fail
  rw [← HW.out.1, ← HW.out.2]
  refine (head_any w1 (HG.out.below HB1.out.1)).mono ?_
  rintro e w2 ⟨rfl, hB2⟩
  have HB2 := Lib.hid (And.intro (HB1.out.1.trans (hB2.mono HB1.out.1.size)) (And.intro (blk_below HB1.out.2.1 hB2) (blk_below HB1.out.2.2 hB2)))
  clear hB2
  obtain ⟨g0, g1, g2⟩ := cells3p HB2.out.2.1
  have gl := blk_lt HB2.out.2.1
  obtain ⟨k0, k1, k2⟩ := cells3p HB2.out.2.2
  have kl := blk_lt HB2.out.2.2
  go_wp2_with fail
  refine (great_any p0 HCAP0.out Ad0 Ab0 nd0 nb0 cd0 cb0 HD0.out.1 HD0.out.2.1 w2 (Kd.C_below HD0.out.2.2.1 HB2.out.1) HD0.out.2.2.2.1 (Kd.C_below HD0.out.2.2.2.2.1 HB2.out.1) HD0.out.2.2.2.2.2).mono ?_
  rintro e w3 ⟨r0, rfl, hless0, hB3⟩
  have HB3 := Lib.hid (And.intro (HB2.out.1.trans (hB3.mono HB2.out.1.size)) (And.intro (blk_below HB2.out.2.1 hB3) (blk_below HB2.out.2.2 hB3)))
  clear hB3
  clear g0 g1 g2 gl k0 k1 k2 kl
  obtain ⟨g0, g1, g2⟩ := cells3p HB3.out.2.1
  have gl := blk_lt HB3.out.2.1
  obtain ⟨k0, k1, k2⟩ := cells3p HB3.out.2.2
  have kl := blk_lt HB3.out.2.2
  cases r0 with
  | true =>
    clear hless0
    go_wp2_with fail
    go_ret
    exact ⟨rfl, HB3.out.1⟩
  | false =>
    have HL0 := Lib.hid (hless0 rfl)
    clear hless0
    go_wp2_with fail
    refine (great_any p1 HCAP1.out Ad1 Ab1 nd1 nb1 cd1 cb1 HD1.out.1 HD1.out.2.1 w3 (Kd.C_below HD1.out.2.2.1 HB3.out.1) HD1.out.2.2.2.1 (Kd.C_below HD1.out.2.2.2.2.1 HB3.out.1) HD1.out.2.2.2.2.2).mono ?_
    rintro e w4 ⟨r1, rfl, hless1, hB4⟩
    have HB4 := Lib.hid (And.intro (HB3.out.1.trans (hB4.mono HB3.out.1.size)) (And.intro (blk_below HB3.out.2.1 hB4) (blk_below HB3.out.2.2 hB4)))
    clear hB4
    clear g0 g1 g2 gl k0 k1 k2 kl
    obtain ⟨g0, g1, g2⟩ := cells3p HB4.out.2.1
    have gl := blk_lt HB4.out.2.1
    obtain ⟨k0, k1, k2⟩ := cells3p HB4.out.2.2
    have kl := blk_lt HB4.out.2.2
    cases r1 with
    | true =>
      clear hless1
      go_wp2_with fail
      go_ret
      exact ⟨rfl, HB4.out.1⟩
    | false =>
      have HL1 := Lib.hid (hless1 rfl)
      clear hless1
      have hps0 : ∀ x ∈ p0.body, sizesOk x := fun x hx => (HL0.out.body x hx).sizes
      have hd90 : nd0 ≤ 1000000000 := by have h1 := HL0.out.deps.1; have h2 := HD0.out.1; omega
      have hb90 : nb0 ≤ 1000000000 := by have h1 := HL0.out.few; have h2 := HD0.out.2.1; omega
      have hput0 := fun W (hB : Below w.heap.size w W) => put_any p0 Ad0 Ab0 nd0 nb0 cd0 cb0 W HD0.out.1 HD0.out.2.1 (Kd.C_below HD0.out.2.2.1 hB) (Kd.C_below HD0.out.2.2.2.2.1 hB) hps0 hd90 hb90 (fun hr => by have := patE_hi HL0.out hr; omega) (HG.out.below hB)
      obtain ⟨q0, hq0⟩ : ∃ q, q = patR p0 := ⟨_, rfl⟩
      rw [show putL p0 = if q0 = true then patE p0 else [] by unfold putL; rw [hq0], show putC p0 = if q0 = true then 0 else 1 by unfold putC; rw [hq0]] at hput0
      have HPUT0 := Lib.hid hput0
      have HQ0 := Lib.hid hq0
      clear hps0 hd90 hb90 hput0 hq0
      have hps1 : ∀ x ∈ p1.body, sizesOk x := fun x hx => (HL1.out.body x hx).sizes
      have hd91 : nd1 ≤ 1000000000 := by have h1 := HL1.out.deps.1; have h2 := HD1.out.1; omega
      have hb91 : nb1 ≤ 1000000000 := by have h1 := HL1.out.few; have h2 := HD1.out.2.1; omega
      have hput1 := fun W (hB : Below w.heap.size w W) => put_any p1 Ad1 Ab1 nd1 nb1 cd1 cb1 W HD1.out.1 HD1.out.2.1 (Kd.C_below HD1.out.2.2.1 hB) (Kd.C_below HD1.out.2.2.2.2.1 hB) hps1 hd91 hb91 (fun hr => by have := patE_hi HL1.out hr; omega) (HG.out.below hB)
      obtain ⟨q1, hq1⟩ : ∃ q, q = patR p1 := ⟨_, rfl⟩
      rw [show putL p1 = if q1 = true then patE p1 else [] by unfold putL; rw [hq1], show putC p1 = if q1 = true then 0 else 1 by unfold putC; rw [hq1]] at hput1
      have HPUT1 := Lib.hid hput1
      have HQ1 := Lib.hid hq1
      clear hps1 hd91 hb91 hput1 hq1
      cases q0 with
      | false =>
        cases q1 with
        | false =>
          simp only [Bool.false_eq_true, if_false] at HPUT0
          go_wp2_with fail
          refine (HPUT0.out w4 HB4.out.1).mono ?_
          rintro e w5 ⟨v0, rfl, hb0, hB0⟩
          have HB5 := Lib.hid (And.intro (HB4.out.1.trans (hB0.mono HB4.out.1.size)) (And.intro (blk_below HB4.out.2.1 hB0) (blk_below HB4.out.2.2 hB0)))
          obtain ⟨A0, d0, e0, hdd0, hCC0⟩ := hb0
          subst e0
          have HCC0 := Lib.hid hCC0
          have HDD0 := Lib.hid hdd0
          clear hB0 hdd0 hCC0
          clear g0 g1 g2 gl k0 k1 k2 kl
          obtain ⟨g0, g1, g2⟩ := cells3p HB5.out.2.1
          have gl := blk_lt HB5.out.2.1
          obtain ⟨k0, k1, k2⟩ := cells3p HB5.out.2.2
          have kl := blk_lt HB5.out.2.2
          simp only [Bool.false_eq_true, if_false] at HPUT1
          go_wp2_with fail
          refine (HPUT1.out w5 HB5.out.1).mono ?_
          rintro e w6 ⟨v1, rfl, hb1, hB1⟩
          have HB6 := Lib.hid (And.intro (HB5.out.1.trans (hB1.mono HB5.out.1.size)) (And.intro (blk_below HB5.out.2.1 hB1) (blk_below HB5.out.2.2 hB1)))
          obtain ⟨A1, d1, e1, hdd1, hCC1⟩ := hb1
          subst e1
          have HCC1 := Lib.hid hCC1
          have HDD1 := Lib.hid hdd1
          have HCC0 := Lib.hid (Kd.C_below HCC0.out hB1)
          clear hB1 hdd1 hCC1
          clear g0 g1 g2 gl k0 k1 k2 kl
          obtain ⟨g0, g1, g2⟩ := cells3p HB6.out.2.1
          have gl := blk_lt HB6.out.2.1
          obtain ⟨k0, k1, k2⟩ := cells3p HB6.out.2.2
          have kl := blk_lt HB6.out.2.2
          go_wp2_with fail
          go_ret
          exact ⟨rfl, HB6.out.1⟩
        | true =>
          simp only [Bool.false_eq_true, if_false] at HPUT0
          go_wp2_with fail
          refine (HPUT0.out w4 HB4.out.1).mono ?_
          rintro e w5 ⟨v0, rfl, hb0, hB0⟩
          have HB5 := Lib.hid (And.intro (HB4.out.1.trans (hB0.mono HB4.out.1.size)) (And.intro (blk_below HB4.out.2.1 hB0) (blk_below HB4.out.2.2 hB0)))
          obtain ⟨A0, d0, e0, hdd0, hCC0⟩ := hb0
          subst e0
          have HCC0 := Lib.hid hCC0
          have HDD0 := Lib.hid hdd0
          clear hB0 hdd0 hCC0
          clear g0 g1 g2 gl k0 k1 k2 kl
          obtain ⟨g0, g1, g2⟩ := cells3p HB5.out.2.1
          have gl := blk_lt HB5.out.2.1
          obtain ⟨k0, k1, k2⟩ := cells3p HB5.out.2.2
          have kl := blk_lt HB5.out.2.2
          simp only [if_true] at HPUT1
          go_wp2_with fail
          refine (HPUT1.out w5 HB5.out.1).mono ?_
          rintro e w6 ⟨v1, rfl, hb1, hB1⟩
          have HB6 := Lib.hid (And.intro (HB5.out.1.trans (hB1.mono HB5.out.1.size)) (And.intro (blk_below HB5.out.2.1 hB1) (blk_below HB5.out.2.2 hB1)))
          obtain ⟨A1, d1, e1, hdd1, hCC1⟩ := hb1
          subst e1
          have HCC1 := Lib.hid hCC1
          have HDD1 := Lib.hid hdd1
          have HCC0 := Lib.hid (Kd.C_below HCC0.out hB1)
          clear hB1 hdd1 hCC1
          clear g0 g1 g2 gl k0 k1 k2 kl
          obtain ⟨g0, g1, g2⟩ := cells3p HB6.out.2.1
          have gl := blk_lt HB6.out.2.1
          obtain ⟨k0, k1, k2⟩ := cells3p HB6.out.2.2
          have kl := blk_lt HB6.out.2.2
          go_wp2_with fail
          go_ret
          exact ⟨rfl, HB6.out.1⟩
      | true =>
        cases q1 with
        | false =>
          simp only [if_true] at HPUT0
          go_wp2_with fail
          refine (HPUT0.out w4 HB4.out.1).mono ?_
          rintro e w5 ⟨v0, rfl, hb0, hB0⟩
          have HB5 := Lib.hid (And.intro (HB4.out.1.trans (hB0.mono HB4.out.1.size)) (And.intro (blk_below HB4.out.2.1 hB0) (blk_below HB4.out.2.2 hB0)))
          obtain ⟨A0, d0, e0, hdd0, hCC0⟩ := hb0
          subst e0
          have HCC0 := Lib.hid hCC0
          have HDD0 := Lib.hid hdd0
          clear hB0 hdd0 hCC0
          clear g0 g1 g2 gl k0 k1 k2 kl
          obtain ⟨g0, g1, g2⟩ := cells3p HB5.out.2.1
          have gl := blk_lt HB5.out.2.1
          obtain ⟨k0, k1, k2⟩ := cells3p HB5.out.2.2
          have kl := blk_lt HB5.out.2.2
          simp only [Bool.false_eq_true, if_false] at HPUT1
          go_wp2_with fail
          refine (HPUT1.out w5 HB5.out.1).mono ?_
          rintro e w6 ⟨v1, rfl, hb1, hB1⟩
          have HB6 := Lib.hid (And.intro (HB5.out.1.trans (hB1.mono HB5.out.1.size)) (And.intro (blk_below HB5.out.2.1 hB1) (blk_below HB5.out.2.2 hB1)))
          obtain ⟨A1, d1, e1, hdd1, hCC1⟩ := hb1
          subst e1
          have HCC1 := Lib.hid hCC1
          have HDD1 := Lib.hid hdd1
          have HCC0 := Lib.hid (Kd.C_below HCC0.out hB1)
          clear hB1 hdd1 hCC1
          clear g0 g1 g2 gl k0 k1 k2 kl
          obtain ⟨g0, g1, g2⟩ := cells3p HB6.out.2.1
          have gl := blk_lt HB6.out.2.1
          obtain ⟨k0, k1, k2⟩ := cells3p HB6.out.2.2
          have kl := blk_lt HB6.out.2.2
          go_wp2_with fail
          go_ret
          exact ⟨rfl, HB6.out.1⟩
        | true =>
          simp only [if_true] at HPUT0
          go_wp2_with fail
          refine (HPUT0.out w4 HB4.out.1).mono ?_
          rintro e w5 ⟨v0, rfl, hb0, hB0⟩
          have HB5 := Lib.hid (And.intro (HB4.out.1.trans (hB0.mono HB4.out.1.size)) (And.intro (blk_below HB4.out.2.1 hB0) (blk_below HB4.out.2.2 hB0)))
          obtain ⟨A0, d0, e0, hdd0, hCC0⟩ := hb0
          subst e0
          have HCC0 := Lib.hid hCC0
          have HDD0 := Lib.hid hdd0
          clear hB0 hdd0 hCC0
          clear g0 g1 g2 gl k0 k1 k2 kl
          obtain ⟨g0, g1, g2⟩ := cells3p HB5.out.2.1
          have gl := blk_lt HB5.out.2.1
          obtain ⟨k0, k1, k2⟩ := cells3p HB5.out.2.2
          have kl := blk_lt HB5.out.2.2
          simp only [if_true] at HPUT1
          go_wp2_with fail
          refine (HPUT1.out w5 HB5.out.1).mono ?_
          rintro e w6 ⟨v1, rfl, hb1, hB1⟩
          have HB6 := Lib.hid (And.intro (HB5.out.1.trans (hB1.mono HB5.out.1.size)) (And.intro (blk_below HB5.out.2.1 hB1) (blk_below HB5.out.2.2 hB1)))
          obtain ⟨A1, d1, e1, hdd1, hCC1⟩ := hb1
          subst e1
          have HCC1 := Lib.hid hCC1
          have HDD1 := Lib.hid hdd1
          have HCC0 := Lib.hid (Kd.C_below HCC0.out hB1)
          clear hB1 hdd1 hCC1
          clear g0 g1 g2 gl k0 k1 k2 kl
          obtain ⟨g0, g1, g2⟩ := cells3p HB6.out.2.1
          have gl := blk_lt HB6.out.2.1
          obtain ⟨k0, k1, k2⟩ := cells3p HB6.out.2.2
          have kl := blk_lt HB6.out.2.2
          have hok0 := patOk_of HL0.out HQ0.out.symm
          have hok1 := patOk_of HL1.out HQ1.out.symm
          have hlen0 := patE_hi HL0.out HQ0.out.symm
          have hpos := patE_ne p0
          have hsb := same_bytes hok0 hok1
          obtain ⟨X, hX⟩ : ∃ X, X = patE p0 := ⟨_, rfl⟩
          obtain ⟨Y, hY⟩ : ∃ X, X = patE p1 := ⟨_, rfl⟩
          rw [← hX] at hlen0 hpos HCC0
          rw [← hY] at HCC1
          rw [← hX, ← hY] at hsb
          rw [← hX, ← hY]
          obtain ⟨m, hm⟩ : ∃ m, X.length = m := ⟨_, rfl⟩
          rw [hm] at hlen0 hpos HCC0
          rw [hm]
          obtain ⟨sb, hsb2⟩ : ∃ b, b = sameB p0 p1 := ⟨_, rfl⟩
          rw [← hsb2] at hsb
          have HX := Lib.hid (And.intro hX (And.intro hY (And.intro hok0 (And.intro hok1 (And.intro hm (And.intro hlen0 (And.intro hpos (And.intro hsb2 hsb))))))))
          have hm0 : ¬ (m : Int) = 0 := by omega
          have hm1 : (0 : Int) < (m : Int) := by omega
          clear hok0 hok1 hlen0 hpos hsb hX hY hm hsb2
          obtain ⟨k, hk⟩ : ∃ k, k = cut.toNat % m := ⟨_, rfl⟩
          have hkm : k < m := by rw [hk]; exact Nat.mod_lt _ HX.out.2.2.2.2.2.2.1
          have hcw : (wrap64 cut).tmod (m : Int) = (k : Int) := by
            have h1 : wrap64 cut = (cut.toNat : Int) := by have := HCM.out.1; unfold wrap64; omega
            rw [h1, hk]
            rfl
          have hk0 : (0 : Int) ≤ (k : Int) := by omega
          have hk1 : (k : Int) ≤ (m : Int) := by omega
          have hk2 : (k : Int) ≤ (d0 : Int) := by have := HDD0.out; rw [HX.out.1] at *; have h2 := HX.out.2.2.2.2.1; rw [HX.out.1] at h2; omega
          have hct := cut_none HX.out.2.2.1 k (by rw [← HX.out.1, HX.out.2.2.2.2.1]; exact hkm)
          rw [← HX.out.1] at hct
          have hlk : (X.take k).length = k := by rw [List.length_take, HX.out.2.2.2.2.1]; omega
          have hCk : Kd.C (Kd.int .u8) w6 A0 k (nmI (X.take k)) := by
            have h := Kd.C_take (m := k) (xs := nmI X) (by rw [nmI_length, HX.out.2.2.2.2.1]; exact HCC0.out) (by rw [nmI_length, HX.out.2.2.2.2.1]; omega)
            have e : (nmI X).take k = nmI (X.take k) := by unfold nmI; rw [List.map_take]
            rw [e, nmI_length, hlk] at h
            exact h
          have hgt := get_any A0 k d0 (X.take k) hlk w6 hCk (by have := HX.out.2.2.2.2.2.1; omega) (fun q hq => (hct.2 q hq).elim) (HG.out.below HB6.out.1)
          rw [show getQ (X.take k) = ⟨⟨#[]⟩, [], []⟩ by unfold getQ; rw [hct.1]; rfl, show getC (X.take k) = 3 by unfold getC; rw [hct.1]; rfl] at hgt
          have HGT := Lib.hid hgt
          have HKM := Lib.hid (And.intro hk hkm)
          clear hct hlk hCk hgt hk hkm
          go_wp2_with fail
          refine HGT.out.mono ?_
          rintro e w7 ⟨va, vb, rfl, hRa, hRb, hB7⟩
          obtain ⟨Aa, da, ea⟩ := Kd.R_slice hRa
          subst ea
          obtain ⟨Ac, dc, ec⟩ := Kd.R_slice hRb
          subst ec
          clear hRa hRb
          obtain ⟨w8, hw8⟩ : ∃ w8, w8 = w7.alloc (.cells #[.string ⟨#[]⟩, .slice Aa 0 da, .slice Ac 0 dc] 25) := ⟨_, rfl⟩
          have hB78 : Below w7.heap.size w7 w8 := by rw [hw8]; exact (Below.refl _ _).alloc (Nat.le_refl _) _
          have hB68 := hB7.trans (hB78.mono hB7.size)
          have HB8 := Lib.hid (And.intro (HB6.out.1.trans (hB68.mono HB6.out.1.size)) (And.intro (blk_below HB6.out.2.1 hB68) (blk_below HB6.out.2.2 hB68)))
          have HC8 := Lib.hid (And.intro (Kd.C_below HCC0.out hB68) (Kd.C_below HCC1.out hB68))
          have HW8 := Lib.hid hw8
          clear hw8 hB78 hB68 hB7 hcw hk0 hk1 hk2
          clear g0 g1 g2 gl k0 k1 k2 kl
          obtain ⟨g0, g1, g2⟩ := cells3p HB8.out.2.1
          have gl := blk_lt HB8.out.2.1
          obtain ⟨k0, k1, k2⟩ := cells3p HB8.out.2.2
          have kl := blk_lt HB8.out.2.2
          go_upto_region 9 with (fail)
          rw [← HW8.out]
          have hm9 := HX.out.2.2.2.2.2.1
          go_wp2_with (at_builtin; go_loud (refine Kd.R_append_rows (w0 := w8) (Kd.int .u8) (Rr := fun x cs => cs = [.int .u8 x]) w8.heap.size rfl _ _ 26 5 (.int .u8 0) 1 rfl Tryd.underlying26 infoU8N rfl (by decide) (by decide) (.slice (some ⟨w8.heap.size, 0, none⟩) 0 0) [] (nmI X) A0 m d0 (fun _ => True) (fun _ => False) rfl rfl ?ho ?hr (fun x cs h => h) (fun _ h => h.elim) (fun _ _ => trivial) ?hb ?hbase ?hl ?hk))
          case ho => exact R_emptyB (heap_alloc_new w8 _) (Nat.le_refl _)
          case hr => exact Kd.C_below HC8.out.1 ((Below.refl _ _).alloc (Nat.le_refl _) _)
          case hb => exact (Below.refl _ _).alloc (Nat.le_refl _) _
          case hbase => simp
          case hl => simp; omega
          intro v9 w9 hR9 hB9 hg9 hat9
          try rw [List.nil_append] at hR9
          obtain ⟨A9, d9, e9⟩ := Kd.R_slice hR9
          subst e9
          have hln : (nmI X).length = m := by rw [nmI_length]; exact HX.out.2.2.2.2.1
          rw [hln] at hR9
          rw [hln]
          have HR9 := Lib.hid (And.intro hR9 hB9)
          clear hR9 hB9 hg9 hat9
          go_wp2_with (at_builtin; go_loud (refine Kd.R_append (w0 := w9) (W := w9) (Kd.int .u8) w8.heap.size rfl _ _ 26 5 (.int .u8 0) 1 rfl Tryd.underlying26 infoU8N rfl (by decide) (by decide) (.slice A9 m d9) (nmI X) more [.int .u8 more] (fun _ => True) (fun _ => False) rfl rfl rfl (fun _ h => h.elim) (fun _ _ => trivial) HR9.out.1 (Below.refl _ _) HR9.out.2.size (by rw [hln]; omega) ?_))
          intro v10 w10 hR10 hB10 hg10 hat10
          obtain ⟨A10, d10, e10, hl10, hC10⟩ := Kd.R_reads hR10
          subst e10
          have hnm : nmI X ++ [more] = nmI (X ++ [UInt8.ofNat more.toNat]) := by
            unfold nmI
            rw [List.map_append]
            congr 1
            have h := HCM.out.2
            show [more] = [((UInt8.ofNat more.toNat).toNat : Int)]
            rw [UInt8.toNat_ofNat_of_lt' (show more.toNat < 256 by omega)]
            congr 1
            omega
          have hl1 : (nmI X ++ [more]).length = m + 1 := by rw [List.length_append, hln]; rfl
          rw [hl1] at hC10 hl10
          rw [hl1]
          rw [hnm] at hC10
          have hB810 : Below w8.heap.size w8 w10 := HR9.out.2.trans hB10
          have hmn := more_none HX.out.2.2.1 (UInt8.ofNat more.toNat)
          rw [← HX.out.1] at hmn
          have HB10 := Lib.hid (And.intro (HB8.out.1.trans (hB810.mono HB8.out.1.size)) (And.intro (blk_below HB8.out.2.1 hB810) (blk_below HB8.out.2.2 hB810)))
          have hgt := get_any A10 (m + 1) d10 (X ++ [UInt8.ofNat more.toNat]) (by rw [List.length_append, HX.out.2.2.2.2.1]; rfl) w10 hC10 (by omega) (fun q hq => (hmn.2 q hq).elim) (HG.out.below HB10.out.1)
          rw [show getQ (X ++ [UInt8.ofNat more.toNat]) = ⟨⟨#[]⟩, [], []⟩ by unfold getQ; rw [hmn.1]; rfl, show getC (X ++ [UInt8.ofNat more.toNat]) = 3 by unfold getC; rw [hmn.1]; rfl] at hgt
          have HGT2 := Lib.hid hgt
          have HC10 := Lib.hid (And.intro (Kd.C_below HC8.out.1 hB810) (Kd.C_below HC8.out.2 hB810))
          clear hR10 hB10 hg10 hat10 hl10 hC10 hnm hl1 hB810 hmn hgt hln
          clear g0 g1 g2 gl k0 k1 k2 kl
          go_wp2_with fail
          refine HGT2.out.mono ?_
          rintro e w11 ⟨ve, vf, rfl, hRe, hRf, hB11⟩
          obtain ⟨Ae, de, ee⟩ := Kd.R_slice hRe
          subst ee
          obtain ⟨Af, df, ef⟩ := Kd.R_slice hRf
          subst ef
          clear hRe hRf
          obtain ⟨w12, hw12⟩ : ∃ w12, w12 = w11.alloc (.cells #[.string ⟨#[]⟩, .slice Ae 0 de, .slice Af 0 df] 25) := ⟨_, rfl⟩
          have hB1112 : Below w11.heap.size w11 w12 := by rw [hw12]; exact (Below.refl _ _).alloc (Nat.le_refl _) _
          have hB1012 := hB11.trans (hB1112.mono hB11.size)
          have HB12 := Lib.hid (And.intro (HB10.out.1.trans (hB1012.mono HB10.out.1.size)) (And.intro (blk_below HB10.out.2.1 hB1012) (blk_below HB10.out.2.2 hB1012)))
          have hS0 : ∀ W, Below w12.heap.size w12 W → Below w12.heap.size w12 W ∧ (convert 26 9 (.slice A0 m d0)).run Tryd.prog W = .ok (.string (baN X)) W ∧ (convert 26 9 (.slice A1 Y.length d1)).run Tryd.prog W = .ok (.string (baN Y)) W ∧ W.cell? ⟨w.heap.size, 0, none⟩ = some (.string p0.name) ∧ W.cell? ⟨w.heap.size, 1, none⟩ = some (.slice Ad0 nd0 cd0) ∧ W.cell? ⟨w.heap.size, 2, none⟩ = some (.slice Ab0 nb0 cb0) ∧ W.cell? ⟨w.heap.size + 1, 0, none⟩ = some (.string p1.name) ∧ W.cell? ⟨w.heap.size + 1, 1, none⟩ = some (.slice Ad1 nd1 cd1) ∧ W.cell? ⟨w.heap.size + 1, 2, none⟩ = some (.slice Ab1 nb1 cb1) ∧ w.heap.size < W.heap.size ∧ w.heap.size + 1 < W.heap.size := fun W hB => by
            have hBB := hB1012.trans (hB.mono hB1012.size)
            obtain ⟨g0, g1, g2⟩ := cells3p (blk_below HB12.out.2.1 hB)
            obtain ⟨k0, k1, k2⟩ := cells3p (blk_below HB12.out.2.2 hB)
            refine ⟨hB, ?_, ?_, g0, g1, g2, k0, k1, k2, blk_lt (blk_below HB12.out.2.1 hB), blk_lt (blk_below HB12.out.2.2 hB)⟩
            · rw [← strOf_nmI X]
              exact Kd.C_string Tryd.underlying26 Tryd.underlying5 Tryd.underlying9 (Kd.C_below HC10.out.1 hBB)
            · rw [← strOf_nmI Y]
              exact Kd.C_string Tryd.underlying26 Tryd.underlying5 Tryd.underlying9 (Kd.C_below HC10.out.2 hBB)
          have HS0 := Lib.hid hS0
          have HW12 := Lib.hid hw12
          have hse := HX.out.2.2.2.2.2.2.2.2
          have hss : (sb == sb) = true := by simp
          clear hw12 hB1112 hB1012 hB11 hS0
          go_upto_region 10 with (fail)
          rw [← HW12.out]
          refine start_ (S := fun W => Below w12.heap.size w12 W ∧ (convert 26 9 (.slice A0 m d0)).run Tryd.prog W = .ok (.string (baN X)) W ∧ (convert 26 9 (.slice A1 Y.length d1)).run Tryd.prog W = .ok (.string (baN Y)) W ∧ W.cell? ⟨w.heap.size, 0, none⟩ = some (.string p0.name) ∧ W.cell? ⟨w.heap.size, 1, none⟩ = some (.slice Ad0 nd0 cd0) ∧ W.cell? ⟨w.heap.size, 2, none⟩ = some (.slice Ab0 nb0 cb0) ∧ W.cell? ⟨w.heap.size + 1, 0, none⟩ = some (.string p1.name) ∧ W.cell? ⟨w.heap.size + 1, 1, none⟩ = some (.slice Ad1 nd1 cd1) ∧ W.cell? ⟨w.heap.size + 1, 2, none⟩ = some (.slice Ab1 nb1 cb1) ∧ w.heap.size < W.heap.size ∧ w.heap.size + 1 < W.heap.size) (ds := [20]) (n := 21) #[false, false, false, false, false, false, false, false, false, false, false, false, false, false, false, false, false, false, false, false, false] rfl rfl rfl ?hS0 (fun hHeld => ?hrun)
          case hS0 => exact HS0.out _ (Below.refl _ _).drew
          case hrun =>
            refine pure_ (i := 0) (N := some 77) (v := ?_) (a' := ?_) #[true, false, false, false, false, false, false, false, false, false, false, false, false, false, false, false, false, false, false, false, false] rfl rfl (by kernel_rfl) (fun _ _ _ h => h) (Or.inl ⟨by rfl, ?_⟩) ?_ ?_
            rotate_left
            · intro w'
              go_simp
              first | done | with_reducible rfl
            rotate_left
            · simp only [Act.put, List.setIfInBounds_toArray, List.set_cons_zero, List.set_cons_succ, i64_w, i32_w]
              rfl
            refine pure_ (i := 1) (N := some 78) (v := ?_) (a' := ?_) #[true, true, false, false, false, false, false, false, false, false, false, false, false, false, false, false, false, false, false, false, false] rfl rfl (by kernel_rfl) (fun _ _ _ h => h) (Or.inl ⟨by rfl, ?_⟩) ?_ ?_
            rotate_left
            · intro w'
              go_simp
              first | done | with_reducible rfl
            rotate_left
            · simp only [Act.put, List.setIfInBounds_toArray, List.set_cons_zero, List.set_cons_succ, i64_w, i32_w]
              rfl
            refine pure_ (i := 2) (N := some 79) (v := ?_) (a' := ?_) #[true, true, true, false, false, false, false, false, false, false, false, false, false, false, false, false, false, false, false, false, false] rfl rfl (by kernel_rfl) (fun _ _ _ h => h) (Or.inl ⟨by rfl, ?_⟩) ?_ ?_
            rotate_left
            · intro w'
              go_simp
              first | done | with_reducible rfl
            rotate_left
            · simp only [Act.put, List.setIfInBounds_toArray, List.set_cons_zero, List.set_cons_succ, i64_w, i32_w]
              rfl
            refine pure_ (i := 3) (N := some 80) (v := ?_) (a' := ?_) #[true, true, true, true, false, false, false, false, false, false, false, false, false, false, false, false, false, false, false, false, false] rfl rfl (by kernel_rfl) (fun _ _ _ h => h) (Or.inl ⟨by rfl, ?_⟩) ?_ ?_
            rotate_left
            · intro w'
              go_simp
              first | done | with_reducible rfl
            rotate_left
            · simp only [Act.put, List.setIfInBounds_toArray, List.set_cons_zero, List.set_cons_succ, i64_w, i32_w]
              rfl
            refine pure_ (i := 4) (N := some 81) (v := ?_) (a' := ?_) #[true, true, true, true, true, false, false, false, false, false, false, false, false, false, false, false, false, false, false, false, false] rfl rfl (by kernel_rfl) (fun _ _ _ h => h) (Or.inl ⟨by rfl, ?_⟩) ?_ ?_
            rotate_left
            · intro w'
              go_simp
              first | done | with_reducible rfl
            rotate_left
            · simp only [Act.put, List.setIfInBounds_toArray, List.set_cons_zero, List.set_cons_succ, i64_w, i32_w]
              rfl
            refine pure_ (i := 5) (N := some 82) (v := ?_) (a' := ?_) #[true, true, true, true, true, true, false, false, false, false, false, false, false, false, false, false, false, false, false, false, false] rfl rfl (by kernel_rfl) (fun _ _ _ h => h) (Or.inl ⟨by rfl, ?_⟩) ?_ ?_
            rotate_left
            · intro w'
              go_simp
              first | done | with_reducible rfl
            rotate_left
            · simp only [Act.put, List.setIfInBounds_toArray, List.set_cons_zero, List.set_cons_succ, i64_w, i32_w]
              rfl
            refine pure_ (i := 6) (N := some 83) (v := ?_) (a' := ?_) #[true, true, true, true, true, true, true, false, false, false, false, false, false, false, false, false, false, false, false, false, false] rfl rfl (by kernel_rfl) (fun _ _ _ h => h) (Or.inl ⟨by rfl, ?_⟩) ?_ ?_
            rotate_left
            · intro w'
              go_simp
              first | done | with_reducible rfl
            rotate_left
            · simp only [Act.put, List.setIfInBounds_toArray, List.set_cons_zero, List.set_cons_succ, i64_w, i32_w]
              rfl
            refine pure_ (i := 7) (N := some 84) (v := ?_) (a' := ?_) #[true, true, true, true, true, true, true, true, false, false, false, false, false, false, false, false, false, false, false, false, false] rfl rfl (by kernel_rfl) (fun _ _ _ h => h) (Or.inl ⟨by rfl, ?_⟩) ?_ ?_
            rotate_left
            · intro w'
              go_simp
              first | done | with_reducible rfl
            rotate_left
            · simp only [Act.put, List.setIfInBounds_toArray, List.set_cons_zero, List.set_cons_succ, i64_w, i32_w]
              rfl
            refine pure_ (i := 8) (N := some 85) (v := ?_) (a' := ?_) #[true, true, true, true, true, true, true, true, true, false, false, false, false, false, false, false, false, false, false, false, false] rfl rfl (by kernel_rfl) (fun _ _ _ h => h) (Or.inl ⟨by rfl, ?_⟩) ?_ ?_
            rotate_left
            · intro w'
              go_simp
              first | done | with_reducible rfl
            rotate_left
            · simp only [Act.put, List.setIfInBounds_toArray, List.set_cons_zero, List.set_cons_succ, i64_w, i32_w]
              rfl
            refine pure_ (i := 9) (N := some 86) (v := ?_) (a' := ?_) #[true, true, true, true, true, true, true, true, true, true, false, false, false, false, false, false, false, false, false, false, false] rfl rfl (by kernel_rfl) (fun _ _ _ h => h) (Or.inl ⟨by rfl, ?_⟩) ?_ ?_
            rotate_left
            · intro w'
              go_simp
              first | done | with_reducible rfl
            rotate_left
            · simp only [Act.put, List.setIfInBounds_toArray, List.set_cons_zero, List.set_cons_succ, i64_w, i32_w]
              rfl
            refine pure_ (i := 10) (N := some 87) (v := ?_) (a' := ?_) #[true, true, true, true, true, true, true, true, true, true, true, false, false, false, false, false, false, false, false, false, false] rfl rfl (by kernel_rfl) (fun _ _ _ h => h) (Or.inl ⟨by rfl, ?_⟩) ?_ ?_
            rotate_left
            · intro w'
              go_simp
              first | done | with_reducible rfl
            rotate_left
            · simp only [Act.put, List.setIfInBounds_toArray, List.set_cons_zero, List.set_cons_succ, i64_w, i32_w]
              rfl
            refine take_ (i := 11) (N := some 88) (v := ?_) (a' := ?_) #[true, true, true, true, true, true, true, true, true, true, true, true, false, false, false, false, false, false, false, false, false] rfl rfl (by kernel_rfl) (fun _ _ _ h => h) (Or.inl ⟨by rfl, ?_⟩) hHeld ?_ ?_
            rotate_left
            · rintro w' ⟨_, hr1, hr2, g0, g1, g2, k0, k1, k2, gl, kl⟩
              go_simp
              first | done | with_reducible rfl
            rotate_left
            · simp only [Act.put, List.setIfInBounds_toArray, List.set_cons_zero, List.set_cons_succ, i64_w, i32_w]
              rfl
            refine pure_ (i := 12) (N := some 89) (v := ?_) (a' := ?_) #[true, true, true, true, true, true, true, true, true, true, true, true, true, false, false, false, false, false, false, false, false] rfl rfl (by kernel_rfl) (fun _ _ _ h => h) (Or.inl ⟨by rfl, ?_⟩) ?_ ?_
            rotate_left
            · intro w'
              go_simp
              first | done | with_reducible rfl
            rotate_left
            · simp only [Act.put, List.setIfInBounds_toArray, List.set_cons_zero, List.set_cons_succ, i64_w, i32_w]
              rfl
            refine take_ (i := 13) (N := some 90) (v := ?_) (a' := ?_) #[true, true, true, true, true, true, true, true, true, true, true, true, true, true, false, false, false, false, false, false, false] rfl rfl (by kernel_rfl) (fun _ _ _ h => h) (Or.inl ⟨by rfl, ?_⟩) hHeld ?_ ?_
            rotate_left
            · rintro w' ⟨_, hr1, hr2, g0, g1, g2, k0, k1, k2, gl, kl⟩
              go_simp
              first | done | with_reducible rfl
            rotate_left
            · simp only [Act.put, List.setIfInBounds_toArray, List.set_cons_zero, List.set_cons_succ, i64_w, i32_w]
              rfl
            refine pure_ (i := 14) (N := some 91) (v := ?_) (a' := ?_) #[true, true, true, true, true, true, true, true, true, true, true, true, true, true, true, false, false, false, false, false, false] rfl rfl (by kernel_rfl) (fun _ _ _ h => h) (Or.inl ⟨by rfl, ?_⟩) ?_ ?_
            rotate_left
            · intro w'
              go_simp
              first | done | with_reducible rfl
            rotate_left
            · simp only [Act.put, List.setIfInBounds_toArray, List.set_cons_zero, List.set_cons_succ, i64_w, i32_w]
              rfl
            refine take_ (i := 15) (N := some 92) (v := ?_) (a' := ?_) #[true, true, true, true, true, true, true, true, true, true, true, true, true, true, true, true, false, false, false, false, false] rfl rfl (by kernel_rfl) (fun _ _ _ h => h) (Or.inl ⟨by rfl, ?_⟩) hHeld ?_ ?_
            rotate_left
            · rintro w' ⟨_, hr1, hr2, g0, g1, g2, k0, k1, k2, gl, kl⟩
              go_simp
              first | done | with_reducible rfl
            rotate_left
            · simp only [Act.put, List.setIfInBounds_toArray, List.set_cons_zero, List.set_cons_succ, i64_w, i32_w]
              rfl
            refine take_ (i := 16) (N := some 93) (v := ?_) (a' := ?_) #[true, true, true, true, true, true, true, true, true, true, true, true, true, true, true, true, true, false, false, false, false] rfl rfl (by kernel_rfl) (fun _ _ _ h => h) (Or.inl ⟨by rfl, ?_⟩) hHeld ?_ ?_
            rotate_left
            · rintro w' ⟨_, hr1, hr2, g0, g1, g2, k0, k1, k2, gl, kl⟩
              go_simp
              first | done | with_reducible rfl
            rotate_left
            · simp only [Act.put, List.setIfInBounds_toArray, List.set_cons_zero, List.set_cons_succ, i64_w, i32_w]
              rfl
            refine one_ (i := 17) (N := some 94) #[true, true, true, true, true, true, true, true, true, true, true, true, true, true, true, true, true, true, false, false, false] rfl rfl (by kernel_rfl) (by decide) (fun K hK => ?_)
            refine goes_ Tryd.func12 (by kernel_rfl) rfl #[.agg #[.string p0.name, .slice Ad0 nd0 cd0, .slice Ab0 nb0 cb0], .agg #[.string p1.name, .slice Ad1 nd1 cd1, .slice Ab1 nb1 cb1]] (by rfl) rfl rfl (by (try simp only [List.map_toArray, List.map_cons, List.map_nil]); first | done | rfl) ?_
            have hBw : Below w.heap.size w w12.drew := HB12.out.1.trans (((Below.refl _ _).drew).mono HB12.out.1.size)
            refine (same_any p0 p1 HCAP0.out Ad0 Ab0 nd0 nb0 cd0 cb0 HD0.out.1 HD0.out.2.1 Ad1 Ab1 nd1 nb1 cd1 cb1 HD1.out.1 HD1.out.2.1 w12.drew (Kd.C_below HD0.out.2.2.1 hBw) HD0.out.2.2.2.1 (Kd.C_below HD0.out.2.2.2.2.1 hBw) HD0.out.2.2.2.2.2 (Kd.C_below HD1.out.2.2.1 hBw) HD1.out.2.2.2.1 (Kd.C_below HD1.out.2.2.2.2.1 hBw) HD1.out.2.2.2.2.2).mono ?_
            rintro e w13 ⟨rfl, hB13⟩
            rw [← HX.out.2.2.2.2.2.2.2.1]
            have hB1213 : Below w12.heap.size w12 w13 := (Below.refl _ _).drew.trans hB13
            have HB13 := Lib.hid (HB12.out.1.trans (hB1213.mono HB12.out.1.size))
            refine ⟨_, rfl, ?_⟩
            refine hK.out _ _ (HS0.out _ hB1213) (fun hHeld1 => ?_)
            clear hK K
            refine norm_ (a' := ?_) ?_ ?_
            rotate_left
            · show Act.put _ (some 94) _ = _
              simp only [Act.put, List.setIfInBounds_toArray, List.set_cons_zero, List.set_cons_succ, i64_w, i32_w]
              rfl
            refine pure_ (i := 18) (N := some 95) (v := ?_) (a' := ?_) #[true, true, true, true, true, true, true, true, true, true, true, true, true, true, true, true, true, true, true, false, false] rfl rfl (by kernel_rfl) (fun _ _ _ h => h) (Or.inl ⟨by rfl, ?_⟩) ?_ ?_
            rotate_left
            · intro w'
              go_simp
              first | done | with_reducible rfl
            rotate_left
            · simp only [Act.put, List.setIfInBounds_toArray, List.set_cons_zero, List.set_cons_succ, i64_w, i32_w]
              rfl
            refine pure_ (i := 19) (N := some 96) (v := ?_) (a' := ?_) #[true, true, true, true, true, true, true, true, true, true, true, true, true, true, true, true, true, true, true, true, false] rfl rfl (by kernel_rfl) (fun _ _ _ h => h) (Or.inl ⟨by rfl, ?_⟩) ?_ ?_
            rotate_left
            · intro w'
              go_simp
              first | done | with_reducible rfl
            rotate_left
            · simp only [Act.put, List.setIfInBounds_toArray, List.set_cons_zero, List.set_cons_succ, i64_w, i32_w]
              rfl
            refine tail_list 20 (t := [20]) (fuel := 0) rfl rfl rfl (by kernel_rfl) (by decide) ?_
            go_wp2_with fail
            go_ret
            exact ⟨by simp, HB13.out⟩
end Go.Proofs.YtijfedahhgcfpaaDoor
