/- NamedBack: its law. (mklaw13b.py wrote it.) -/
import Derived.Test.YtijfedahhgcfpaaDoorNamV
set_option linter.unusedVariables false
set_option linter.unusedSimpArgs false
namespace Go.Proofs.YtijfedahhgcfpaaDoor
open Go.RowKit Go.Proofs.YtijfedahhgcfpaaDoorW.PrintWords Go.Proofs.YtijfedahhgcfpaaDoorW.PrintLast

set_option maxRecDepth 100000 in
set_option maxHeartbeats 16000000 in
theorem back_law (w : World) (x0 : Pat) (cs0 : Array Value) (hx0 : kPat.K w x0 cs0.toList) (hg0 : goodPat x0) (x1 : List Int) (A : Option Addr) (n c : Nat) (hx1 : kBs.K w x1 [.slice A n c]) (hg1 : goodB x1) (hG : Ground w) :
    Calls Tryd.prog 3 #[.agg cs0, .slice A n c] w fun e w' => e = .returned (.bool true) ∧ Below w.heap.size w w' := by
  obtain ⟨Ad, cd, Ab, cb, rfl, hcd, hD, hcb, hP⟩ := pat_open hx0
  obtain ⟨hn, hnc, hC⟩ := bytes_open hx1
  obtain ⟨l, rfl⟩ := nmI_of x1 hg1.2
  rw [nmI_length] at hn
  have HN := Lib.hid hn.symm
  have HC := Lib.hid hC
  have HG := Lib.hid hG
  have HCAP := Lib.hid hg0.cap
  obtain ⟨p, hp⟩ : ∃ p, p = x0 := ⟨_, rfl⟩
  rw [← hp] at hD hP hcd hcb HCAP
  obtain ⟨nd, hnd⟩ : ∃ m, p.deps.length = m := ⟨_, rfl⟩
  obtain ⟨nb, hnb⟩ : ∃ m, p.body.length = m := ⟨_, rfl⟩
  rw [hnd] at hD hcd
  rw [hnb] at hP hcb
  rw [← hp, hnd, hnb]
  have HD := Lib.hid (And.intro hnd (And.intro hnb (And.intro hD (And.intro hcd (And.intro hP hcb)))))
  clear hx0 hg0 hx1 hg1 hG hn hnc hC hcd hD hcb hP hnd hnb hp
  obtain ⟨w1, hw1⟩ : ∃ w1, w1 = w.alloc (.cells #[.string p.name, .slice Ad nd cd, .slice Ab nb cb] 25) := ⟨_, rfl⟩
  have hB1 : Below w.heap.size w w1 := by rw [hw1]; exact (Below.refl _ _).alloc (Nat.le_refl _) _
  have hb1 : w1.heap[w.heap.size]? = some (.cells #[.string p.name, .slice Ad nd cd, .slice Ab nb cb] 25 (0, 0)) := by rw [hw1]; exact heap_alloc_new w _
  have HW := Lib.hid hw1
  have HB1 := Lib.hid (And.intro hB1 hb1)
  clear hw1 hB1 hb1
  go_enter Tryd.func3, Tryd.ntmps3
  go_wp2_with fail
  rw [← HW.out]
  refine (head_any w1 (HG.out.below HB1.out.1)).mono ?_
  rintro e w2 ⟨rfl, hB2⟩
  have HB2 := Lib.hid (And.intro (HB1.out.1.trans (hB2.mono HB1.out.1.size)) (blk_below HB1.out.2 hB2))
  clear hB2
  obtain ⟨g0, g1, g2⟩ := cells3p HB2.out.2
  have gl := blk_lt HB2.out.2
  go_wp2_with fail
  refine (great_any p HCAP.out Ad Ab nd nb cd cb HD.out.1 HD.out.2.1 w2 (Kd.C_below HD.out.2.2.1 HB2.out.1) HD.out.2.2.2.1 (Kd.C_below HD.out.2.2.2.2.1 HB2.out.1) HD.out.2.2.2.2.2).mono ?_
  rintro e w3 ⟨r, rfl, hless, hB3⟩
  have HB3 := Lib.hid (And.intro (HB2.out.1.trans (hB3.mono HB2.out.1.size)) (blk_below HB2.out.2 hB3))
  clear hB3 g0 g1 g2 gl
  obtain ⟨g0, g1, g2⟩ := cells3p HB3.out.2
  have gl := blk_lt HB3.out.2
  cases r with
  | true =>
    clear hless
    go_wp2_with fail
    go_ret
    exact ⟨rfl, HB3.out.1⟩
  | false =>
    have HLP := Lib.hid (hless rfl)
    clear hless
    rcases Nat.lt_or_ge 20000 n with h20 | h20
    · have h20I : (20000 : Int) < (n : Int) := by omega
      go_wp2_with fail
      go_ret
      exact ⟨rfl, HB3.out.1⟩
    have h20I : ¬ (20000 : Int) < (n : Int) := by omega
    have H20 := Lib.hid h20
    clear h20
    have hps : ∀ x ∈ p.body, sizesOk x := fun x hx => (HLP.out.body x hx).sizes
    have hd9 : nd ≤ 1000000000 := by have h1 := HLP.out.deps.1; have h2 := HD.out.1; omega
    have hb9 : nb ≤ 1000000000 := by have h1 := HLP.out.few; have h2 := HD.out.2.1; omega
    have hput := put_any p Ad Ab nd nb cd cb w3 HD.out.1 HD.out.2.1 (Kd.C_below HD.out.2.2.1 HB3.out.1) (Kd.C_below HD.out.2.2.2.2.1 HB3.out.1) hps hd9 hb9 (fun hr => by have := patE_hi HLP.out hr; omega) (HG.out.below HB3.out.1)
    have hrt := fun W (hB : Below w.heap.size w W) => nright_any p Ad Ab nd nb cd cb W HD.out.1 HD.out.2.1 (Kd.C_below HD.out.2.2.1 hB) (Kd.C_below HD.out.2.2.2.2.1 hB) hps hd9 hb9
    obtain ⟨q, hq⟩ : ∃ q, q = patR p := ⟨_, rfl⟩
    rw [← hq] at hrt
    have hpl : putL p = if q = true then patE p else [] := by unfold putL; rw [hq]
    have hpc : putC p = if q = true then 0 else 1 := by unfold putC; rw [hq]
    rw [hpl, hpc] at hput
    have HPUT := Lib.hid hput
    have HRT := Lib.hid hrt
    have HQ := Lib.hid hq
    clear hps hd9 hb9 hput hrt hq hpl hpc h20I
    have h20I : ¬ (20000 : Int) < (n : Int) := by have := H20.out; omega
    cases q with
    | false =>
      simp only [Bool.false_eq_true, if_false] at HPUT
      go_wp2_with fail
      refine HPUT.out.mono ?_
      rintro e w4 ⟨v4, rfl, hb4, hB4⟩
      have HB4 := Lib.hid (And.intro (HB3.out.1.trans (hB4.mono HB3.out.1.size)) (blk_below HB3.out.2 hB4))
      obtain ⟨A4, d4, e4, hd4, hC4⟩ := hb4
      subst e4
      clear hB4 hd4 hC4 g0 g1 g2 gl
      obtain ⟨g0, g1, g2⟩ := cells3p HB4.out.2
      have gl := blk_lt HB4.out.2
      go_wp2_with fail
      refine (HRT.out w4 HB4.out.1).mono ?_
      rintro e w5 ⟨rfl, hB5⟩
      have HB5 := Lib.hid (HB4.out.1.trans (hB5.mono HB4.out.1.size))
      clear hB5 g0 g1 g2 gl
      have HCl := Lib.hid (Kd.C_below HC.out HB5.out)
      have hszb : ∀ p, patP l = some (p, []) → p.deps.length ≤ 1000000000 ∧ p.body.length ≤ 1000000000 ∧ ∀ x ∈ p.body, sizesOk x := fun p hp => pat_sizes p 20000 (by have := (codec_pat.dec _ _ _ hp).2; rw [List.append_nil] at this; rw [← this, HN.out]; exact H20.out) (by omega)
      have HSZ := Lib.hid hszb
      have hgb := get_any A n c l HN.out w5 HCl.out (by have := H20.out; omega) hszb (HG.out.below HB5.out)
      clear hszb
      obtain ⟨u, hu⟩ : ∃ u, u = getQ l := ⟨_, rfl⟩
      obtain ⟨cu, hcu⟩ : ∃ x, x = getC l := ⟨_, rfl⟩
      rw [← hu, ← hcu] at hgb
      have HU := Lib.hid (And.intro hu hcu)
      have HGB := Lib.hid hgb
      clear hgb hu hcu
      go_wp2_with fail
      refine HGB.out.mono ?_
      rintro e wa ⟨va, vb, rfl, hRa, hRb, hBa⟩
      obtain ⟨Aa, da, ea, hla, hCa⟩ := Kd.R_reads hRa
      subst ea
      obtain ⟨Ab2, db, eb, hlb, hCb⟩ := Kd.R_reads hRb
      subst eb
      obtain ⟨na, hna⟩ : ∃ m, u.deps.length = m := ⟨_, rfl⟩
      obtain ⟨nb2, hnb2⟩ : ∃ m, u.body.length = m := ⟨_, rfl⟩
      rw [hna] at hla hCa
      rw [hnb2] at hlb hCb
      rw [hna, hnb2]
      have HBa := Lib.hid (HB5.out.trans (hBa.mono HB5.out.size))
      have HRa := Lib.hid (And.intro hCa (And.intro hla (And.intro hCb (And.intro hlb (And.intro hna hnb2)))))
      clear hRa hRb hla hlb hCa hCb hna hnb2 hBa
      obtain ⟨wb, hwb⟩ : ∃ wb, wb = wa.alloc (.cells #[.string u.name, .slice Aa na da, .slice Ab2 nb2 db] 25) := ⟨_, rfl⟩
      have hbb : wb.heap[wa.heap.size]? = some (.cells #[.string u.name, .slice Aa na da, .slice Ab2 nb2 db] 25 (0, 0)) := by rw [hwb]; exact heap_alloc_new wa _
      have hBab : Below wa.heap.size wa wb := by rw [hwb]; exact (Below.refl _ _).alloc (Nat.le_refl _) _
      have HBb := Lib.hid (HBa.out.trans (hBab.mono HBa.out.size))
      have HRb := Lib.hid (And.intro (Kd.C_below HRa.out.1 hBab) (Kd.C_below HRa.out.2.2.1 hBab))
      obtain ⟨z0, z1, z2⟩ := cells3p hbb
      have glb := blk_lt hbb
      have HWB := Lib.hid hwb
      clear hbb hBab hwb
      cases hgp : getP l with
      | none =>
        have hu0 : u = ⟨⟨#[]⟩, [], []⟩ := by rw [HU.out.1]; unfold getQ; rw [hgp]; rfl
        have hc0 : cu = 3 := by rw [HU.out.2]; unfold getC; rw [hgp]; rfl
        have hs := same_any u ⟨⟨#[]⟩, [], []⟩ (by rw [hu0]; exact ⟨by unfold capN; decide, by unfold capN; decide, fun x hx => by cases hx⟩) Aa Ab2 na nb2 da db HRa.out.2.2.2.2.1 HRa.out.2.2.2.2.2 none none 0 0 0 0 rfl rfl wb HRb.out.1 HRa.out.2.1 HRb.out.2 HRa.out.2.2.2.1 (Kd.C_nil _ _) (Nat.le_refl _) (Kd.C_nil _ _) (Nat.le_refl _)
        rw [show sameB u ⟨⟨#[]⟩, [], []⟩ = true by rw [hu0]; exact sameB_iff.2 rfl] at hs
        have HS := Lib.hid hs
        subst hc0
        clear hs hu0 hgp
        go_wp2_with fail
        rw [← HWB.out]
        go_wp2_with fail
        refine HS.out.mono ?_
        rintro e wc ⟨rfl, hBc⟩
        have HBc := Lib.hid (HBb.out.trans (hBc.mono HBb.out.size))
        clear hBc
        go_wp2_with fail
        go_ret
        exact ⟨rfl, HBc.out⟩
      | some u' =>
        have hu0 : u = u' := by rw [HU.out.1]; unfold getQ; rw [hgp]; rfl
        have hc0 : cu = 0 := by rw [HU.out.2]; unfold getC; rw [hgp]; rfl
        subst hu0
        obtain ⟨g1, g2, g3⟩ := getP_some hgp
        have hsu := HSZ.out u (by have := codec_pat.enc u [] g2; rw [List.append_nil, ← g3] at this; exact this)
        have hp := put_any u Aa Ab2 na nb2 da db wb HRa.out.2.2.2.2.1 HRa.out.2.2.2.2.2 HRb.out.1 HRb.out.2 hsu.2.2 (by rw [← HRa.out.2.2.2.2.1]; exact hsu.1) (by rw [← HRa.out.2.2.2.2.2]; exact hsu.2.1) (fun _ => by rw [← g3, HN.out]; have := H20.out; omega) (HG.out.below HBb.out)
        rw [show putL u = l by unfold putL; rw [if_pos g1, ← g3], show putC u = 0 by unfold putC; rw [if_pos g1]] at hp
        have HPP := Lib.hid hp
        subst hc0
        clear hp hgp g1 g2 g3 hsu
        go_wp2_with fail
        rw [← HWB.out]
        go_wp2_with fail
        refine HPP.out.mono ?_
        rintro e wc ⟨vc, rfl, hbc, hBc⟩
        obtain ⟨Ac, dc, ec, hdc, hCc⟩ := hbc
        subst ec
        have HBc := Lib.hid (HBb.out.trans (hBc.mono HBb.out.size))
        have hst : (convert 26 9 (.slice Ac l.length dc)).run Tryd.prog wc = .ok (.string (baN l)) wc := by
          rw [← strOf_nmI l]
          exact Kd.C_string Tryd.underlying26 Tryd.underlying5 Tryd.underlying9 hCc
        have hst2 : (convert 26 9 (.slice A n c)).run Tryd.prog wc = .ok (.string (baN l)) wc := by
          rw [← strOf_nmI l]
          exact Kd.C_string Tryd.underlying26 Tryd.underlying5 Tryd.underlying9 (Kd.C_below HC.out HBc.out)
        clear hBc hCc hdc
        go_wp2_with fail
        go_ret
        exact ⟨rfl, HBc.out⟩
    | true =>
      simp only [if_true] at HPUT
      go_wp2_with fail
      refine HPUT.out.mono ?_
      rintro e w4 ⟨v4, rfl, hb4, hB4⟩
      have HB4 := Lib.hid (And.intro (HB3.out.1.trans (hB4.mono HB3.out.1.size)) (blk_below HB3.out.2 hB4))
      obtain ⟨A4, d4, e4, hd4, hC4⟩ := hb4
      subst e4
      have HC4 := Lib.hid hC4
      clear hB4 hd4 hC4 g0 g1 g2 gl
      obtain ⟨g0, g1, g2⟩ := cells3p HB4.out.2
      have gl := blk_lt HB4.out.2
      go_wp2_with fail
      refine (HRT.out w4 HB4.out.1).mono ?_
      rintro e w5 ⟨rfl, hB5⟩
      have HB5 := Lib.hid (And.intro (HB4.out.1.trans (hB5.mono HB4.out.1.size)) (blk_below HB4.out.2 hB5))
      have HC5 := Lib.hid (Kd.C_below HC4.out hB5)
      clear hB5 g0 g1 g2 gl
      have hok := patOk_of HLP.out HQ.out.symm
      have hgp : getP (patE p) = some p := getP_put hok HQ.out.symm
      have hg := get_any A4 (patE p).length d4 (patE p) rfl w5 HC5.out (by have := patE_hi HLP.out HQ.out.symm; omega) (fun p' hp' => by
        obtain ⟨rfl, _⟩ := patP_enc hok hp'
        exact ⟨by have := HLP.out.deps.1; omega, by have := HLP.out.few; omega, fun x hx => (HLP.out.body x hx).sizes⟩) (HG.out.below HB5.out.1)
      rw [show getQ (patE p) = p by unfold getQ; rw [hgp]; rfl, show getC (patE p) = 0 by unfold getC; rw [hgp]; rfl] at hg
      have HGT := Lib.hid hg
      clear hok hgp hg
      go_wp2_with fail
      refine HGT.out.mono ?_
      rintro e w6 ⟨v1, v2, rfl, hR1, hR2, hB6⟩
      obtain ⟨A1, d1, e1, hl1, hC1⟩ := Kd.R_reads hR1
      subst e1
      obtain ⟨A2, d2, e2, hl2, hC2⟩ := Kd.R_reads hR2
      subst e2
      rw [HD.out.1] at hl1 hC1
      rw [HD.out.2.1] at hl2 hC2
      rw [HD.out.1, HD.out.2.1]
      have hB6' := HB5.out.1.trans (hB6.mono HB5.out.1.size)
      obtain ⟨w7, hw7⟩ : ∃ w7, w7 = w6.alloc (.cells #[.string p.name, .slice A1 nd d1, .slice A2 nb d2] 25) := ⟨_, rfl⟩
      have hb7 : w7.heap[w6.heap.size]? = some (.cells #[.string p.name, .slice A1 nd d1, .slice A2 nb d2] 25 (0, 0)) := by rw [hw7]; exact heap_alloc_new w6 _
      have hB67 : Below w6.heap.size w6 w7 := by rw [hw7]; exact (Below.refl _ _).alloc (Nat.le_refl _) _
      have HB7 := Lib.hid (And.intro (hB6'.trans (hB67.mono hB6'.size)) (blk_below (blk_below HB5.out.2 hB6) hB67))
      have hs := same_any p p HCAP.out Ad Ab nd nb cd cb HD.out.1 HD.out.2.1 A1 A2 nd nb d1 d2 HD.out.1 HD.out.2.1 w7 (Kd.C_below HD.out.2.2.1 HB7.out.1) HD.out.2.2.2.1 (Kd.C_below HD.out.2.2.2.2.1 HB7.out.1) HD.out.2.2.2.2.2 (Kd.C_below hC1 hB67) hl1 (Kd.C_below hC2 hB67) hl2
      rw [sameB_iff.2 rfl] at hs
      have HS := Lib.hid hs
      have HW7 := Lib.hid hw7
      obtain ⟨g0, g1, g2⟩ := cells3p HB7.out.2
      have gl := blk_lt HB7.out.2
      obtain ⟨k0, k1, k2⟩ := cells3p hb7
      have kl := blk_lt hb7
      clear hR1 hR2 hB6 hl1 hl2 hC1 hC2 hB6' hb7 hB67 hs hw7
      go_upto_region 9 with (fail)
      rw [← HW7.out]
      go_wp2_with fail
      refine HS.out.mono ?_
      rintro e w8 ⟨rfl, hB8⟩
      have HB8 := Lib.hid (HB7.out.1.trans (hB8.mono HB7.out.1.size))
      clear hB8 g0 g1 g2 gl k0 k1 k2 kl
      have HCl := Lib.hid (Kd.C_below HC.out HB8.out)
      have hszb : ∀ p, patP l = some (p, []) → p.deps.length ≤ 1000000000 ∧ p.body.length ≤ 1000000000 ∧ ∀ x ∈ p.body, sizesOk x := fun p hp => pat_sizes p 20000 (by have := (codec_pat.dec _ _ _ hp).2; rw [List.append_nil] at this; rw [← this, HN.out]; exact H20.out) (by omega)
      have HSZ := Lib.hid hszb
      have hgb := get_any A n c l HN.out w8 HCl.out (by have := H20.out; omega) hszb (HG.out.below HB8.out)
      clear hszb
      obtain ⟨u, hu⟩ : ∃ u, u = getQ l := ⟨_, rfl⟩
      obtain ⟨cu, hcu⟩ : ∃ x, x = getC l := ⟨_, rfl⟩
      rw [← hu, ← hcu] at hgb
      have HU := Lib.hid (And.intro hu hcu)
      have HGB := Lib.hid hgb
      clear hgb hu hcu
      go_wp2_with fail
      refine HGB.out.mono ?_
      rintro e wa ⟨va, vb, rfl, hRa, hRb, hBa⟩
      obtain ⟨Aa, da, ea, hla, hCa⟩ := Kd.R_reads hRa
      subst ea
      obtain ⟨Ab2, db, eb, hlb, hCb⟩ := Kd.R_reads hRb
      subst eb
      obtain ⟨na, hna⟩ : ∃ m, u.deps.length = m := ⟨_, rfl⟩
      obtain ⟨nb2, hnb2⟩ : ∃ m, u.body.length = m := ⟨_, rfl⟩
      rw [hna] at hla hCa
      rw [hnb2] at hlb hCb
      rw [hna, hnb2]
      have HBa := Lib.hid (HB8.out.trans (hBa.mono HB8.out.size))
      have HRa := Lib.hid (And.intro hCa (And.intro hla (And.intro hCb (And.intro hlb (And.intro hna hnb2)))))
      clear hRa hRb hla hlb hCa hCb hna hnb2 hBa
      obtain ⟨wb, hwb⟩ : ∃ wb, wb = wa.alloc (.cells #[.string u.name, .slice Aa na da, .slice Ab2 nb2 db] 25) := ⟨_, rfl⟩
      have hbb : wb.heap[wa.heap.size]? = some (.cells #[.string u.name, .slice Aa na da, .slice Ab2 nb2 db] 25 (0, 0)) := by rw [hwb]; exact heap_alloc_new wa _
      have hBab : Below wa.heap.size wa wb := by rw [hwb]; exact (Below.refl _ _).alloc (Nat.le_refl _) _
      have HBb := Lib.hid (HBa.out.trans (hBab.mono HBa.out.size))
      have HRb := Lib.hid (And.intro (Kd.C_below HRa.out.1 hBab) (Kd.C_below HRa.out.2.2.1 hBab))
      obtain ⟨z0, z1, z2⟩ := cells3p hbb
      have glb := blk_lt hbb
      have HWB := Lib.hid hwb
      clear hbb hBab hwb
      cases hgp : getP l with
      | none =>
        have hu0 : u = ⟨⟨#[]⟩, [], []⟩ := by rw [HU.out.1]; unfold getQ; rw [hgp]; rfl
        have hc0 : cu = 3 := by rw [HU.out.2]; unfold getC; rw [hgp]; rfl
        have hs := same_any u ⟨⟨#[]⟩, [], []⟩ (by rw [hu0]; exact ⟨by unfold capN; decide, by unfold capN; decide, fun x hx => by cases hx⟩) Aa Ab2 na nb2 da db HRa.out.2.2.2.2.1 HRa.out.2.2.2.2.2 none none 0 0 0 0 rfl rfl wb HRb.out.1 HRa.out.2.1 HRb.out.2 HRa.out.2.2.2.1 (Kd.C_nil _ _) (Nat.le_refl _) (Kd.C_nil _ _) (Nat.le_refl _)
        rw [show sameB u ⟨⟨#[]⟩, [], []⟩ = true by rw [hu0]; exact sameB_iff.2 rfl] at hs
        have HS := Lib.hid hs
        subst hc0
        clear hs hu0 hgp
        go_wp2_with fail
        rw [← HWB.out]
        go_wp2_with fail
        refine HS.out.mono ?_
        rintro e wc ⟨rfl, hBc⟩
        have HBc := Lib.hid (HBb.out.trans (hBc.mono HBb.out.size))
        clear hBc
        go_wp2_with fail
        go_ret
        exact ⟨rfl, HBc.out⟩
      | some u' =>
        have hu0 : u = u' := by rw [HU.out.1]; unfold getQ; rw [hgp]; rfl
        have hc0 : cu = 0 := by rw [HU.out.2]; unfold getC; rw [hgp]; rfl
        subst hu0
        obtain ⟨g1, g2, g3⟩ := getP_some hgp
        have hsu := HSZ.out u (by have := codec_pat.enc u [] g2; rw [List.append_nil, ← g3] at this; exact this)
        have hp := put_any u Aa Ab2 na nb2 da db wb HRa.out.2.2.2.2.1 HRa.out.2.2.2.2.2 HRb.out.1 HRb.out.2 hsu.2.2 (by rw [← HRa.out.2.2.2.2.1]; exact hsu.1) (by rw [← HRa.out.2.2.2.2.2]; exact hsu.2.1) (fun _ => by rw [← g3, HN.out]; have := H20.out; omega) (HG.out.below HBb.out)
        rw [show putL u = l by unfold putL; rw [if_pos g1, ← g3], show putC u = 0 by unfold putC; rw [if_pos g1]] at hp
        have HPP := Lib.hid hp
        subst hc0
        clear hp hgp g1 g2 g3 hsu
        go_wp2_with fail
        rw [← HWB.out]
        go_wp2_with fail
        refine HPP.out.mono ?_
        rintro e wc ⟨vc, rfl, hbc, hBc⟩
        obtain ⟨Ac, dc, ec, hdc, hCc⟩ := hbc
        subst ec
        have HBc := Lib.hid (HBb.out.trans (hBc.mono HBb.out.size))
        have hst : (convert 26 9 (.slice Ac l.length dc)).run Tryd.prog wc = .ok (.string (baN l)) wc := by
          rw [← strOf_nmI l]
          exact Kd.C_string Tryd.underlying26 Tryd.underlying5 Tryd.underlying9 hCc
        have hst2 : (convert 26 9 (.slice A n c)).run Tryd.prog wc = .ok (.string (baN l)) wc := by
          rw [← strOf_nmI l]
          exact Kd.C_string Tryd.underlying26 Tryd.underlying5 Tryd.underlying9 (Kd.C_below HC.out HBc.out)
        clear hBc hCc hdc
        go_wp2_with fail
        go_ret
        exact ⟨rfl, HBc.out⟩
end Go.Proofs.YtijfedahhgcfpaaDoor
