/- SessionBack's contract. -/
import Derived.Test.YthfgkkpibkkiaaaDoorSessL
set_option linter.unusedVariables false
set_option linter.unusedSimpArgs false
namespace Go.Proofs.YthfgkkpibkkiaaaDoor
open Go.RowKit Go.Proofs.YthfgkkpibkkiaaaDoorW.PrintWords Go.Proofs.YthfgkkpibkkiaaaDoorW.PrintLast Go.Proofs.YthfgkkpibkkiaaaDoor.PSessionPlays

theorem frame_open {w : World} {x : S24} {cs : Array Value} (h : k24.K w x cs.toList) : ∃ A c, cs = #[.int .i64 x.f0, .int .i64 x.f1, .bool x.f2, .int .i64 x.f3, .slice A x.f4.length c] ∧ x.f4.length ≤ c ∧ Kd.C (Kd.int .u8) w A x.f4.length x.f4 := by
  obtain ⟨A, c, e, l, g⟩ := k24_open h
  exact ⟨A, c, by cases cs; simpa using e, l, g⟩
theorem same_f (x : S24) : counterpaneref20_Same.f x.f0 x.f1 x.f2 x.f3 x.f4 x.f0 x.f1 x.f2 x.f3 x.f4 = some true := by
  unfold counterpaneref20_Same.f
  simp
theorem fsame_any (x : S24) (n : Nat) (hn : x.f4.length = n) (A0 A1 : Option Addr) (c0 c1 : Nat) (w : World) (h0 : Kd.C (Kd.int .u8) w A0 n x.f4) (g0 : n ≤ c0) (h1 : Kd.C (Kd.int .u8) w A1 n x.f4) (g1 : n ≤ c1) :
    Calls Tryd.prog 16 #[.agg #[.int .i64 x.f0, .int .i64 x.f1, .bool x.f2, .int .i64 x.f3, .slice A0 n c0], .agg #[.int .i64 x.f0, .int .i64 x.f1, .bool x.f2, .int .i64 x.f3, .slice A1 n c1]] w fun r w' => r = .returned (.bool true) ∧ Below w.heap.size w w' := by
  subst hn
  refine (counterpaneref20_Same.calls x.f0 x.f1 x.f2 x.f3 A0 c0 x.f4 x.f0 x.f1 x.f2 x.f3 A1 c1 x.f4 true w h0 g0 h1 g1 (same_f x)).mono ?_
  rintro r w' ⟨rfl, h⟩
  exact ⟨rfl, h⟩
theorem put_form (x : S24) (l4 : List UInt8) (h4 : x.f4 = nmI l4) (A : Option Addr) (n c : Nat) (hl : x.f4.length = n) (w : World) (hC : Kd.C (Kd.int .u8) w A n x.f4) (hc : n ≤ c) (hG : Ground w) :
    Calls Tryd.prog 14 #[.agg #[.int .i64 x.f0, .int .i64 x.f1, .bool x.f2, .int .i64 x.f3, .slice A n c]] w fun r w' => Below w.heap.size w w' ∧
      ((okF x = true ∧ ∃ p Ap cp, putB x = nmI p ∧ 0 < p.length ∧ p.length ≤ 1000000 ∧ r = .returned (.tuple #[.slice (some Ap) p.length cp, .int .i64 0]) ∧ p.length ≤ cp ∧ Kd.C (Kd.int .u8) w' (some Ap) p.length (nmI p)) ∨ (okF x = false ∧ ∃ Ap np cp, r = .returned (.tuple #[.slice Ap np cp, .int .i64 1]))) := by
  refine (put_any x A n c hl w hC hc hG).mono ?_
  rintro r w' ⟨v, rfl, hR, hB⟩
  refine ⟨hB, ?_⟩
  rcases Bool.eq_false_or_eq_true (okF x) with hq | hq
  rotate_left
  · obtain ⟨Ap, cp, rfl⟩ := Kd.R_slice hR
    exact .inr ⟨hq, Ap, 0, cp, by simp [hq]⟩
  · obtain ⟨p, hp1, hp2, hp3, hp4, hp5⟩ := back_plain x l4 h4 hq
    rw [if_pos hq, hp1] at hR
    obtain ⟨A', c', rfl, hcp, hCp⟩ := Kd.R_reads hR
    rw [nmI_length] at hcp hCp
    obtain ⟨ad, rfl, _⟩ := hCp.2.2 hp4
    exact .inl ⟨hq, p, ad, c', hp1, hp4, hp5, by rw [if_pos hq, nmI_length], hcp, hCp⟩
theorem get_form (A : Option Addr) (n c : Nat) (l : List UInt8) (w : World) (hC : Kd.C (Kd.int .u8) w A n (nmI l)) (hc : n ≤ c) (hA : A = none → c = 0) (hn : n = l.length) (hl : l.length ≤ 1000000) (hG : Ground w) :
    Calls Tryd.prog 15 #[.slice A n c] w fun r w' => Below w.heap.size w w' ∧ ∃ Ag m cg, (getB l).f4.length = m ∧ r = .returned (.tuple #[.agg #[.int .i64 (getB l).f0, .int .i64 (getB l).f1, .bool (getB l).f2, .int .i64 (getB l).f3, .slice Ag m cg], .int .i64 (getE l)]) ∧ m ≤ cg ∧ Kd.C (Kd.int .u8) w' Ag m (getB l).f4 := by
  refine (get_any A n c l w hC hc hA hn hl hG).mono ?_
  rintro r w' ⟨v, rfl, hR, hB⟩
  obtain ⟨A', c', rfl, hcp, hCp⟩ := Kd.R_reads hR
  exact ⟨hB, A', _, c', rfl, rfl, hcp, hCp⟩
set_option maxRecDepth 100000 in
set_option maxHeartbeats 4000000 in
theorem back_law (w : World) (x : S24) (cs : Array Value) (h : k24.K w x cs.toList) (g : goodF x) (os : List Int) (A2 : Option Addr) (n2 c2 : Nat) (h2 : kT.K w os [.slice A2 n2 c2]) (g2 : goodB os) (hA2 : A2 = none → c2 = 0) (hG : Ground w) :
    Calls Tryd.prog 3 #[.agg cs, .slice A2 n2 c2] w fun e w' => e = .returned (.bool true) ∧ Below w.heap.size w w' := by
  obtain ⟨A, c, rfl, hc, hC⟩ := frame_open h
  obtain ⟨hn2, hc2, hO⟩ := bytes_open h2
  obtain ⟨l4, hl4⟩ := bytes_nmI g.2.2.2.2.2
  obtain ⟨lb, rfl⟩ := bytes_nmI g2.2
  rw [nmI_length] at hn2
  obtain ⟨n, hn⟩ : ∃ n, n = x.f4.length := ⟨_, rfl⟩
  rw [← hn] at hc hC ⊢
  obtain ⟨w0, hw0⟩ : ∃ w0, w0 = w.alloc (.cells #[.int .i64 x.f0, .int .i64 x.f1, .bool x.f2, .int .i64 x.f3, .slice A n c] 24) := ⟨_, rfl⟩
  have hB0 : Below w.heap.size w w0 := by rw [hw0]; exact (Below.refl _ _).alloc (Nat.le_refl _) _
  have hF0 : w0.heap[w.heap.size]? = some (.cells #[.int .i64 x.f0, .int .i64 x.f1, .bool x.f2, .int .i64 x.f3, .slice A n c] 24 (0, 0)) := by rw [hw0]; exact heap_alloc_new w _
  have HH := Lib.hid (head_any w0 (hG.below hB0))
  have HG := Lib.hid hG
  have HB0 := Lib.hid hB0
  have HF0 := Lib.hid hF0
  have HX := Lib.hid (And.intro hn (And.intro hc (And.intro hC hl4)))
  have HO := Lib.hid (And.intro hn2 (And.intro hc2 (And.intro hO hA2)))
  have HW0 := Lib.hid hw0
  obtain ⟨fb, hfb⟩ : ∃ fb, fb = w.heap.size := ⟨_, rfl⟩
  have HFB := Lib.hid hfb
  rw [← hfb] at HF0
  clear h h2 g g2 hG hC hO hn hn2 hc hc2 hA2 hl4 hw0 hB0 hF0 hfb
  go_enter Tryd.func3, Tryd.ntmps3
  go_upto_region 1 with (fail)
  rw [← HW0.out, ← HFB.out]
  clear HW0
  go_wp2_with fail
  refine HH.out.mono ?_
  rintro r w1 ⟨rfl, hB1⟩
  have HB1 := Lib.hid (HB0.out.trans (hB1.mono HB0.out.size))
  have HF1 := Lib.hid (blk_below HF0.out hB1)
  clear hB1 HH HF0 HB0
  obtain ⟨f0, f1, f2, f3, f4⟩ := cells5 HF1.out
  have hlf := blk_lt HF1.out
  go_wp2_with fail
  refine (great_any x A n c HX.out.1.symm _).mono ?_
  rintro r w2 ⟨rfl, hB2⟩
  have HB2 := Lib.hid (HB1.out.trans (hB2.mono HB1.out.size))
  have HF2 := Lib.hid (blk_below HF1.out hB2)
  clear hB2 HF1 HB1 f0 f1 f2 f3 f4 hlf
  obtain ⟨f0, f1, f2, f3, f4⟩ := cells5 HF2.out
  have hlf := blk_lt HF2.out
  by_cases hg1 : 40000 < n
  · rw [decide_eq_true hg1]
    go_wp2_with fail
    go_ret
    exact ⟨rfl, HB2.out⟩
  rw [decide_eq_false hg1]
  by_cases hg2 : 40000 < n2
  · have d1 : (40000 : Int) < (n2 : Int) := by omega
    go_wp2_with fail
    go_ret
    exact ⟨rfl, HB2.out⟩
  have d1 : ¬ (40000 : Int) < (n2 : Int) := by omega
  go_wp2_with fail
  refine (put_form x l4 HX.out.2.2.2 A n c HX.out.1.symm w2 (Kd.C_below HX.out.2.2.1 HB2.out) HX.out.2.1 (HG.out.below HB2.out)).mono ?_
  rintro r w3 ⟨hB3, hor⟩
  have HB3 := Lib.hid (HB2.out.trans (hB3.mono HB2.out.size))
  have HF3 := Lib.hid (blk_below HF2.out hB3)
  clear hB3 HF2 HB2 f0 f1 f2 f3 f4 hlf
  obtain ⟨f0, f1, f2, f3, f4⟩ := cells5 HF3.out
  have hlf := blk_lt HF3.out
  rcases hor with ⟨hq, p, Ap, cp, hp1, hp4, hp5, rfl, hcp, hCp⟩ | ⟨hq, Ap, np, cp, rfl⟩
  · obtain ⟨p', hp1', hp2, hp3, _, _⟩ := back_plain x l4 HX.out.2.2.2 hq
    obtain rfl : p = p' := nmI_inj (hp1.symm.trans hp1')
    have hget := get_form (some Ap) p.length cp p w3 hCp hcp (fun h => by cases h) rfl hp5 (HG.out.below HB3.out)
    rw [show getE p = 0 by unfold getE; rw [if_pos hp2], hp3] at hget
    obtain ⟨np, hnp⟩ : ∃ np, np = p.length := ⟨_, rfl⟩
    rw [← hnp] at hget ⊢
    have HGET := Lib.hid hget
    clear hget hp1 hp1' hp2 hp3 hp4 hp5 hcp hCp hnp hq
    go_wp2_with fail
    refine HGET.out.mono ?_
    rintro r w4 ⟨hB4, Ag, mg, cg, hmg, rfl, hcg, hCg⟩
    obtain rfl : n = mg := HX.out.1.trans hmg
    have HB4 := Lib.hid (HB3.out.trans (hB4.mono HB3.out.size))
    have HF4 := Lib.hid (blk_below HF3.out hB4)
    have HC4 := Lib.hid (And.intro hcg hCg)
    clear hB4 HF3 HB3 f0 f1 f2 f3 f4 hlf hmg hcg hCg HGET
    obtain ⟨f0, f1, f2, f3, f4⟩ := cells5 HF4.out
    have hlf := blk_lt HF4.out
    go_upto_region 7 with (fail)
    obtain ⟨w5, hw5⟩ : ∃ w5, w5 = w4.alloc (.cells #[.int .i64 x.f0, .int .i64 x.f1, .bool x.f2, .int .i64 x.f3, .slice Ag n cg] 24) := ⟨_, rfl⟩
    obtain ⟨gb, hgb⟩ : ∃ gb, gb = w4.heap.size := ⟨_, rfl⟩
    have hB45 : Below w4.heap.size w4 w5 := by rw [hw5]; exact (Below.refl _ _).alloc (Nat.le_refl _) _
    have hg5 : w5.heap[gb]? = some (.cells #[.int .i64 x.f0, .int .i64 x.f1, .bool x.f2, .int .i64 x.f3, .slice Ag n cg] 24 (0, 0)) := by rw [hw5, hgb]; exact heap_alloc_new w4 _
    rw [← hw5, ← hgb]
    have HB5 := Lib.hid (HB4.out.trans (hB45.mono HB4.out.size))
    have HC5 := Lib.hid (And.intro HC4.out.1 (Kd.C_below HC4.out.2 hB45))
    have hf5 := blk_below HF4.out hB45
    clear f0 f1 f2 f3 f4 hlf hw5 hgb hB45 HF4 HC4 HB4
    obtain ⟨f0, f1, f2, f3, f4⟩ := cells5 hf5
    have hlf := blk_lt hf5
    obtain ⟨g0, g1, g2, g3, g4⟩ := cells5 hg5
    have hlg := blk_lt hg5
    clear hf5 hg5
    go_wp2_with fail
    refine (fsame_any x n HX.out.1.symm A Ag c cg w5 (Kd.C_below HX.out.2.2.1 HB5.out) HX.out.2.1 HC5.out.2 HC5.out.1).mono ?_
    rintro r WW ⟨rfl, hB6⟩
    have HBW := Lib.hid (HB5.out.trans (hB6.mono HB5.out.size))
    clear f0 f1 f2 f3 f4 hlf g0 g1 g2 g3 g4 hlg hB6 HC5 HB5
    go_wp2_with fail
    refine (get_form A2 n2 c2 lb WW (Kd.C_below HO.out.2.2.1 HBW.out) HO.out.2.1 HO.out.2.2.2 HO.out.1 (by have := HO.out.1; omega) (HG.out.below HBW.out)).mono ?_
    rintro r wu ⟨hBu, Au, mu, cu, hmu, rfl, hcu, hCu⟩
    have HBu := Lib.hid (HBW.out.trans (hBu.mono HBW.out.size))
    rcases Bool.eq_false_or_eq_true (getOk lb) with hok | hok
    · have hE : getE lb = 0 := by unfold getE; rw [if_pos hok]
      have hgb : getB lb = getF lb := by unfold getB; rw [if_pos hok]
      rw [hgb] at hmu hCu
      rw [hE, hgb]
      obtain ⟨y, hy⟩ : ∃ y, y = getF lb := ⟨_, rfl⟩
      have hy4 : y.f4 = nmI (getL4 lb) := by rw [hy]; rfl
      have hyo : okF y = true ∧ putB y = nmI lb := by
        unfold getOk at hok
        rw [← hy, Bool.and_eq_true, decide_eq_true_iff] at hok
        exact hok
      rw [← hy] at hmu hCu ⊢
      have HY := Lib.hid (And.intro hy4 hyo)
      have HCu := Lib.hid (And.intro hmu (And.intro hcu hCu))
      clear hBu hE hgb hy hy4 hyo hok hmu hcu hCu
      go_wp2_with fail
      obtain ⟨wv, hwv⟩ : ∃ wv, wv = wu.alloc (.cells #[.int .i64 y.f0, .int .i64 y.f1, .bool y.f2, .int .i64 y.f3, .slice Au mu cu] 24) := ⟨_, rfl⟩
      have hBuv : Below wu.heap.size wu wv := by rw [hwv]; exact (Below.refl _ _).alloc (Nat.le_refl _) _
      rw [← hwv]
      have HBv := Lib.hid (HBu.out.trans (hBuv.mono HBu.out.size))
      refine (put_form y (getL4 lb) HY.out.1 Au mu cu HCu.out.1 wv (Kd.C_below HCu.out.2.2 hBuv) HCu.out.2.1 (HG.out.below HBv.out)).mono ?_
      rintro r wx ⟨hBx, hor⟩
      have HBx := Lib.hid (HBv.out.trans (hBx.mono HBv.out.size))
      rcases hor with ⟨_, p, Ay, cy, hp1, hp4, hp5, rfl, hcy, hCy⟩ | ⟨hno, _⟩
      rotate_left
      · rw [HY.out.2.1] at hno
        cases hno
      · obtain rfl : lb = p := nmI_inj (HY.out.2.2.symm.trans hp1)
        obtain ⟨pl, hpl⟩ : ∃ pl, pl = lb.length := ⟨_, rfl⟩
        rw [← hpl] at hcy hCy ⊢
        have HCy := Lib.hid hCy
        have HCb := Lib.hid (Kd.C_below HO.out.2.2.1 HBx.out)
        clear hwv hBuv hBx hp1 hp4 hp5 hcy hCy hpl
        go_wp2_with fail
        rw [Kd.C_string (e := 5) Tryd.underlying22 Tryd.underlying5 Tryd.underlying9 HCy.out]
        simp only [Result.andThen]
        rw [Oper.upon_value]
        go_wp2_with fail
        rw [Kd.C_string (e := 5) Tryd.underlying22 Tryd.underlying5 Tryd.underlying9 HCb.out]
        simp only [Result.andThen]
        rw [Oper.upon_value]
        go_wp2_with fail
        go_ret
        refine ⟨?_, HBx.out⟩
        first | rfl | (show Ending.returned (Value.bool (_ == _)) = _; simp)
    · have hE : getE lb = 3 := by unfold getE; rw [if_neg (by rw [hok]; simp)]
      have hgb : getB lb = ⟨0, 0, false, 0, []⟩ := by unfold getB; rw [if_neg (by rw [hok]; simp)]
      rw [hgb] at hmu hCu
      rw [hE, hgb]
      obtain rfl : mu = 0 := hmu.symm
      have HCu := Lib.hid (And.intro hcu hCu)
      clear hBu hE hgb hok hmu hcu hCu
      go_wp2_with fail
      obtain ⟨wv, hwv⟩ : ∃ wv, wv = wu.alloc (.cells #[.int .i64 0, .int .i64 0, .bool false, .int .i64 0, .slice Au 0 cu] 24) := ⟨_, rfl⟩
      have hBuv : Below wu.heap.size wu wv := by rw [hwv]; exact (Below.refl _ _).alloc (Nat.le_refl _) _
      rw [← hwv]
      have HBv := Lib.hid (HBu.out.trans (hBuv.mono HBu.out.size))
      refine (fsame_any ⟨0, 0, false, 0, []⟩ 0 rfl Au none cu 0 wv (Kd.C_below HCu.out.2 hBuv) HCu.out.1 (Kd.C_nil _ _) (Nat.le_refl _)).mono ?_
      rintro r wx ⟨rfl, hBx⟩
      have HBx := Lib.hid (HBv.out.trans (hBx.mono HBv.out.size))
      clear hwv hBuv hBx
      go_wp2_with fail
      go_ret
      exact ⟨rfl, HBx.out⟩
  · obtain ⟨WW, hWW⟩ : ∃ WW, WW = w3 := ⟨_, rfl⟩
    rw [← hWW] at HB3 ⊢
    have HBW := HB3
    clear HB3 HF3 f0 f1 f2 f3 f4 hlf hWW hq
    go_wp2_with fail
    refine (get_form A2 n2 c2 lb WW (Kd.C_below HO.out.2.2.1 HBW.out) HO.out.2.1 HO.out.2.2.2 HO.out.1 (by have := HO.out.1; omega) (HG.out.below HBW.out)).mono ?_
    rintro r wu ⟨hBu, Au, mu, cu, hmu, rfl, hcu, hCu⟩
    have HBu := Lib.hid (HBW.out.trans (hBu.mono HBW.out.size))
    rcases Bool.eq_false_or_eq_true (getOk lb) with hok | hok
    · have hE : getE lb = 0 := by unfold getE; rw [if_pos hok]
      have hgb : getB lb = getF lb := by unfold getB; rw [if_pos hok]
      rw [hgb] at hmu hCu
      rw [hE, hgb]
      obtain ⟨y, hy⟩ : ∃ y, y = getF lb := ⟨_, rfl⟩
      have hy4 : y.f4 = nmI (getL4 lb) := by rw [hy]; rfl
      have hyo : okF y = true ∧ putB y = nmI lb := by
        unfold getOk at hok
        rw [← hy, Bool.and_eq_true, decide_eq_true_iff] at hok
        exact hok
      rw [← hy] at hmu hCu ⊢
      have HY := Lib.hid (And.intro hy4 hyo)
      have HCu := Lib.hid (And.intro hmu (And.intro hcu hCu))
      clear hBu hE hgb hy hy4 hyo hok hmu hcu hCu
      go_wp2_with fail
      obtain ⟨wv, hwv⟩ : ∃ wv, wv = wu.alloc (.cells #[.int .i64 y.f0, .int .i64 y.f1, .bool y.f2, .int .i64 y.f3, .slice Au mu cu] 24) := ⟨_, rfl⟩
      have hBuv : Below wu.heap.size wu wv := by rw [hwv]; exact (Below.refl _ _).alloc (Nat.le_refl _) _
      rw [← hwv]
      have HBv := Lib.hid (HBu.out.trans (hBuv.mono HBu.out.size))
      refine (put_form y (getL4 lb) HY.out.1 Au mu cu HCu.out.1 wv (Kd.C_below HCu.out.2.2 hBuv) HCu.out.2.1 (HG.out.below HBv.out)).mono ?_
      rintro r wx ⟨hBx, hor⟩
      have HBx := Lib.hid (HBv.out.trans (hBx.mono HBv.out.size))
      rcases hor with ⟨_, p, Ay, cy, hp1, hp4, hp5, rfl, hcy, hCy⟩ | ⟨hno, _⟩
      rotate_left
      · rw [HY.out.2.1] at hno
        cases hno
      · obtain rfl : lb = p := nmI_inj (HY.out.2.2.symm.trans hp1)
        obtain ⟨pl, hpl⟩ : ∃ pl, pl = lb.length := ⟨_, rfl⟩
        rw [← hpl] at hcy hCy ⊢
        have HCy := Lib.hid hCy
        have HCb := Lib.hid (Kd.C_below HO.out.2.2.1 HBx.out)
        clear hwv hBuv hBx hp1 hp4 hp5 hcy hCy hpl
        go_wp2_with fail
        rw [Kd.C_string (e := 5) Tryd.underlying22 Tryd.underlying5 Tryd.underlying9 HCy.out]
        simp only [Result.andThen]
        rw [Oper.upon_value]
        go_wp2_with fail
        rw [Kd.C_string (e := 5) Tryd.underlying22 Tryd.underlying5 Tryd.underlying9 HCb.out]
        simp only [Result.andThen]
        rw [Oper.upon_value]
        go_wp2_with fail
        go_ret
        refine ⟨?_, HBx.out⟩
        first | rfl | (show Ending.returned (Value.bool (_ == _)) = _; simp)
    · have hE : getE lb = 3 := by unfold getE; rw [if_neg (by rw [hok]; simp)]
      have hgb : getB lb = ⟨0, 0, false, 0, []⟩ := by unfold getB; rw [if_neg (by rw [hok]; simp)]
      rw [hgb] at hmu hCu
      rw [hE, hgb]
      obtain rfl : mu = 0 := hmu.symm
      have HCu := Lib.hid (And.intro hcu hCu)
      clear hBu hE hgb hok hmu hcu hCu
      go_wp2_with fail
      obtain ⟨wv, hwv⟩ : ∃ wv, wv = wu.alloc (.cells #[.int .i64 0, .int .i64 0, .bool false, .int .i64 0, .slice Au 0 cu] 24) := ⟨_, rfl⟩
      have hBuv : Below wu.heap.size wu wv := by rw [hwv]; exact (Below.refl _ _).alloc (Nat.le_refl _) _
      rw [← hwv]
      have HBv := Lib.hid (HBu.out.trans (hBuv.mono HBu.out.size))
      refine (fsame_any ⟨0, 0, false, 0, []⟩ 0 rfl Au none cu 0 wv (Kd.C_below HCu.out.2 hBuv) HCu.out.1 (Kd.C_nil _ _) (Nat.le_refl _)).mono ?_
      rintro r wx ⟨rfl, hBx⟩
      have HBx := Lib.hid (HBv.out.trans (hBx.mono HBv.out.size))
      clear hwv hBuv hBx
      go_wp2_with fail
      go_ret
      exact ⟨rfl, HBx.out⟩
end Go.Proofs.YthfgkkpibkkiaaaDoor
