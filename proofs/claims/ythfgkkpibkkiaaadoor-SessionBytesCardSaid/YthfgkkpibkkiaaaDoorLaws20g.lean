/- SessionBytes' contract. -/
import Derived.Test.YthfgkkpibkkiaaaDoorLaws20e
import Derived.Test.YthfgkkpibkkiaaaDoorSessU
import Derived.Test.YthfgkkpibkkiaaaDoorSessV
set_option linter.unusedVariables false
set_option linter.unusedSimpArgs false
namespace Go.Proofs.YthfgkkpibkkiaaaDoor
open Go.RowKit Go.Proofs.YthfgkkpibkkiaaaDoorW.PrintWords Go.Proofs.YthfgkkpibkkiaaaDoorW.PrintLast Go.Proofs.YthfgkkpibkkiaaaDoor.PSessionPlays

def pBytes (x : S24) : List Int := if okF x = true then putB x else []
def pErr (x : S24) : Int := if okF x = true then 0 else 1
def PForm (x : S24) (w : World) (r : Ending) (w' : World) : Prop := Below w.heap.size w w' ∧ ∃ Ap np cp, r = .returned (.tuple #[.slice Ap np cp, .int .i64 (pErr x)]) ∧ (pBytes x).length = np ∧ np ≤ cp ∧ Kd.C (Kd.int .u8) w' Ap np (pBytes x)
theorem put_p (x : S24) (A : Option Addr) (n c : Nat) (hl : x.f4.length = n) (w : World) (hC : Kd.C (Kd.int .u8) w A n x.f4) (hc : n ≤ c) (hG : Ground w) :
    Calls Tryd.prog 14 #[.agg #[.int .i64 x.f0, .int .i64 x.f1, .bool x.f2, .int .i64 x.f3, .slice A n c]] w fun r w' => PForm x w r w' := by
  refine (put_any x A n c hl w hC hc hG).mono ?_
  rintro r w' ⟨v, rfl, hR, hB⟩
  obtain ⟨A', c', rfl, hcp, hCp⟩ := Kd.R_reads hR
  exact ⟨hB, A', _, c', rfl, rfl, hcp, hCp⟩
theorem rput_p (x : S24) (A : Option Addr) (n c : Nat) (hl : x.f4.length = n) (w : World) (hC : Kd.C (Kd.int .u8) w A n x.f4) (hc : n ≤ c) (hG : Ground w) :
    Calls Tryd.prog 32 #[.agg #[.int .i64 x.f0, .int .i64 x.f1, .bool x.f2, .int .i64 x.f3, .slice A n c]] w fun r w' => PForm x w r w' := by
  refine (rput_any x A n c hl w hC hc hG).mono ?_
  rintro r w' ⟨hB, ⟨hq, Ap, m, cp, rfl, hm, hcp, hC⟩ | ⟨hq, rfl⟩⟩
  · refine ⟨hB, some Ap, m, cp, ?_, ?_, hcp, ?_⟩
    · unfold pErr; rw [if_pos hq]
    · unfold pBytes; rw [if_pos hq]; exact hm
    · unfold pBytes; rw [if_pos hq]; exact hC
  · refine ⟨hB, none, 0, 0, ?_, ?_, Nat.le_refl _, ?_⟩
    · unfold pErr; rw [if_neg (by rw [hq]; simp)]
    · unfold pBytes; rw [if_neg (by rw [hq]; simp)]; rfl
    · unfold pBytes; rw [if_neg (by rw [hq]; simp)]; exact Kd.C_nil _ _
set_option maxRecDepth 100000 in
set_option maxHeartbeats 4000000 in
theorem bytes_law (w : World) (x : S24) (cs : Array Value) (h : k24.K w x cs.toList) (g : goodF x) (os : List Int) (A2 : Option Addr) (n2 c2 : Nat) (h2 : kT.K w os [.slice A2 n2 c2]) (g2 : goodB os) (hA2 : A2 = none → c2 = 0) (hG : Ground w) :
    Calls Tryd.prog 11 #[.agg cs, .slice A2 n2 c2] w fun e w' => e = .returned (.bool true) ∧ Below w.heap.size w w' := by
  obtain ⟨A, c, rfl, hc, hC⟩ := frame_open h
  obtain ⟨hn2, hc2, hO⟩ := bytes_open h2
  obtain ⟨l4, hl4⟩ := bytes_nmI g.2.2.2.2.2
  obtain ⟨lb, rfl⟩ := bytes_nmI g2.2
  rw [nmI_length] at hn2
  obtain ⟨n, hn⟩ : ∃ n, n = x.f4.length := ⟨_, rfl⟩
  rw [← hn] at hc hC ⊢
  obtain ⟨w0, hw0⟩ : ∃ w0, w0 = w.alloc (.cells #[.int .i64 x.f0, .int .i64 x.f1, .bool x.f2, .int .i64 x.f3, .slice A n c] 24) := ⟨_, rfl⟩
  have hB0 : Below w.heap.size w w0 := by rw [hw0]; exact (Below.refl _ _).alloc (Nat.le_refl _) _
  have hF0 : w0.heap[w.heap.size]? = some (.cells #[.int .i64 x.f0, .int .i64 x.f1, .bool x.f2, .int .i64 x.f3, .slice A n c] 24 (0, 0)) := by rw [hw0]; exact heap_alloc_new w _
  have HH := Lib.hid (head_any w0 (hG.below hB0))
  have HG := Lib.hid hG
  have HB0 := Lib.hid hB0
  have HF0 := Lib.hid hF0
  have HX := Lib.hid (And.intro hn (And.intro hc (And.intro hC hl4)))
  have HO := Lib.hid (And.intro hn2 (And.intro hc2 (And.intro hO hA2)))
  have HW0 := Lib.hid hw0
  obtain ⟨fb, hfb⟩ : ∃ fb, fb = w.heap.size := ⟨_, rfl⟩
  have HFB := Lib.hid hfb
  rw [← hfb] at HF0
  clear h h2 g g2 hG hC hO hn hn2 hc hc2 hA2 hl4 hw0 hB0 hF0 hfb
  go_enter Tryd.func11, Tryd.ntmps11
  go_upto_region 1 with (fail)
  rw [← HW0.out, ← HFB.out]
  clear HW0
  go_wp2_with fail
  refine HH.out.mono ?_
  rintro r w1 ⟨rfl, hB1⟩
  have HB1 := Lib.hid (HB0.out.trans (hB1.mono HB0.out.size))
  have HF1 := Lib.hid (blk_below HF0.out hB1)
  clear hB1 HH HF0 HB0
  obtain ⟨f0, f1, f2, f3, f4⟩ := cells5 HF1.out
  have hlf := blk_lt HF1.out
  go_wp2_with fail
  refine (great_any x A n c HX.out.1.symm _).mono ?_
  rintro r w2 ⟨rfl, hB2⟩
  have HB2 := Lib.hid (HB1.out.trans (hB2.mono HB1.out.size))
  have HF2 := Lib.hid (blk_below HF1.out hB2)
  clear hB2 HF1 HB1 f0 f1 f2 f3 f4 hlf
  obtain ⟨f0, f1, f2, f3, f4⟩ := cells5 HF2.out
  have hlf := blk_lt HF2.out
  by_cases hg1 : 40000 < n
  · rw [decide_eq_true hg1]
    go_wp2_with fail
    go_ret
    exact ⟨rfl, HB2.out⟩
  rw [decide_eq_false hg1]
  by_cases hg2 : 40000 < n2
  · have d1 : (40000 : Int) < (n2 : Int) := by omega
    go_wp2_with fail
    go_ret
    exact ⟨rfl, HB2.out⟩
  have d1 : ¬ (40000 : Int) < (n2 : Int) := by omega
  go_wp2_with fail
  refine (put_p x A n c HX.out.1.symm w2 (Kd.C_below HX.out.2.2.1 HB2.out) HX.out.2.1 (HG.out.below HB2.out)).mono ?_
  rintro r w3 ⟨hB3, Ap, np, cp, rfl, hnp, hcp, hCp⟩
  have HB3 := Lib.hid (HB2.out.trans (hB3.mono HB2.out.size))
  have HF3 := Lib.hid (blk_below HF2.out hB3)
  have HP3 := Lib.hid (And.intro hnp (And.intro hcp hCp))
  obtain ⟨ec, hec⟩ : ∃ e, e = pErr x := ⟨_, rfl⟩
  rw [← hec]
  have HEC := Lib.hid hec
  clear hB3 hnp hcp hCp hec HF2 HB2 f0 f1 f2 f3 f4 hlf
  obtain ⟨f0, f1, f2, f3, f4⟩ := cells5 HF3.out
  have hlf := blk_lt HF3.out
  go_wp2_with fail
  refine (rput_p x A n c HX.out.1.symm w3 (Kd.C_below HX.out.2.2.1 HB3.out) HX.out.2.1 (HG.out.below HB3.out)).mono ?_
  rintro r w4 ⟨hB4, Aq, nq, cq, rfl, hnq, hcq, hCq⟩
  rw [← HEC.out]
  obtain rfl : nq = np := hnq.symm.trans HP3.out.1
  have HB4 := Lib.hid (HB3.out.trans (hB4.mono HB3.out.size))
  have HP4 := Lib.hid (And.intro (Kd.C_below HP3.out.2.2 hB4) hCq)
  clear hB4 hnq hcq hCq HF3 HB3 HP3 f0 f1 f2 f3 f4 hlf
  go_wp2_with fail
  obtain ⟨y, hy⟩ : ∃ y, y = getB lb := ⟨_, rfl⟩
  obtain ⟨ee, hee⟩ : ∃ e, e = getE lb := ⟨_, rfl⟩
  have hget := get_form A2 n2 c2 lb w4 (Kd.C_below HO.out.2.2.1 HB4.out) HO.out.2.1 HO.out.2.2.2 HO.out.1 (by have := HO.out.1; omega) (HG.out.below HB4.out)
  rw [← hy, ← hee] at hget
  refine hget.mono ?_
  rintro r w5 ⟨hB5, Ag, mg, cg, hmg, rfl, hcg, hCg⟩
  have HB5 := Lib.hid (HB4.out.trans (hB5.mono HB4.out.size))
  have HP5 := Lib.hid (And.intro (Kd.C_below HP4.out.1 hB5) (Kd.C_below HP4.out.2 hB5))
  have HY5 := Lib.hid (And.intro hmg (And.intro hcg hCg))
  have HYE := Lib.hid (And.intro hy hee)
  clear hget hB5 hmg hcg hCg HB4 HP4 hy hee
  go_wp2_with fail
  obtain ⟨w6, hw6⟩ : ∃ w6, w6 = w5.alloc (.cells #[.int .i64 y.f0, .int .i64 y.f1, .bool y.f2, .int .i64 y.f3, .slice Ag mg cg] 24) := ⟨_, rfl⟩
  obtain ⟨ga, hga⟩ : ∃ g, g = w5.heap.size := ⟨_, rfl⟩
  have hB6 : Below w5.heap.size w5 w6 := by rw [hw6]; exact (Below.refl _ _).alloc (Nat.le_refl _) _
  have HG6 := Lib.hid (show w6.heap[ga]? = some (.cells #[.int .i64 y.f0, .int .i64 y.f1, .bool y.f2, .int .i64 y.f3, .slice Ag mg cg] 24 (0, 0)) from by rw [hw6, hga]; exact heap_alloc_new w5 _)
  rw [← hw6, ← hga]
  have HB6 := Lib.hid (HB5.out.trans (hB6.mono HB5.out.size))
  have HP6 := Lib.hid (And.intro (Kd.C_below HP5.out.1 hB6) (Kd.C_below HP5.out.2 hB6))
  have HY6 := Lib.hid (Kd.C_below HY5.out.2.2 hB6)
  clear hw6 hga hB6 HB5 HP5
  have hrg := rget_any A2 n2 c2 lb w6 (Kd.C_below HO.out.2.2.1 HB6.out) HO.out.2.1 HO.out.1 (by have := HO.out.1; omega)
  rw [← HYE.out.1, ← HYE.out.2] at hrg
  refine hrg.mono ?_
  rintro r w7 ⟨hB7, Ah, mh, ch, hmh, rfl, hch, hCh⟩
  obtain rfl : mh = mg := hmh.symm.trans HY5.out.1
  have HB7 := Lib.hid (HB6.out.trans (hB7.mono HB6.out.size))
  have HP7 := Lib.hid (And.intro (Kd.C_below HP6.out.1 hB7) (Kd.C_below HP6.out.2 hB7))
  have HY7 := Lib.hid (And.intro (Kd.C_below HY6.out hB7) (And.intro hch hCh))
  have HG7 := Lib.hid (blk_below HG6.out hB7)
  clear hrg hB7 hmh hch hCh HB6 HP6 HY6 HG6
  go_upto_region 8 with (fail)
  obtain ⟨w8, hw8⟩ : ∃ w8, w8 = w7.alloc (.cells #[.int .i64 y.f0, .int .i64 y.f1, .bool y.f2, .int .i64 y.f3, .slice Ah mh ch] 24) := ⟨_, rfl⟩
  obtain ⟨gb, hgb⟩ : ∃ g, g = w7.heap.size := ⟨_, rfl⟩
  have hB8 : Below w7.heap.size w7 w8 := by rw [hw8]; exact (Below.refl _ _).alloc (Nat.le_refl _) _
  have hG8 : w8.heap[gb]? = some (.cells #[.int .i64 y.f0, .int .i64 y.f1, .bool y.f2, .int .i64 y.f3, .slice Ah mh ch] 24 (0, 0)) := by rw [hw8, hgb]; exact heap_alloc_new w7 _
  rw [← hw8, ← hgb]
  have HB8 := Lib.hid (HB7.out.trans (hB8.mono HB7.out.size))
  have HP8 := Lib.hid (And.intro (Kd.C_below HP7.out.1 hB8) (Kd.C_below HP7.out.2 hB8))
  have HY8 := Lib.hid (And.intro (Kd.C_below HY7.out.1 hB8) (And.intro HY7.out.2.1 (Kd.C_below HY7.out.2.2 hB8)))
  have hF8 := blk_below HG7.out hB8
  clear hw8 hgb hB8 HB7 HP7 HY7 HG7
  obtain ⟨a0, a1, a2, a3, a4⟩ := cells5 hF8
  have hla := blk_lt hF8
  obtain ⟨b0, b1, b2, b3, b4⟩ := cells5 hG8
  have hlb := blk_lt hG8
  clear hF8 hG8
  go_wp2_with fail
  rw [Kd.C_string (e := 5) Tryd.underlying22 Tryd.underlying5 Tryd.underlying9 HP8.out.1]
  simp only [Result.andThen]
  rw [Oper.upon_value]
  go_wp2_with fail
  rw [Kd.C_string (e := 5) Tryd.underlying22 Tryd.underlying5 Tryd.underlying9 HP8.out.2]
  simp only [Result.andThen]
  rw [Oper.upon_value]
  have dE : (ec == ec) = true := by rw [beq_iff_eq]
  have dF : (ee == ee) = true := by rw [beq_iff_eq]
  go_wp2_with fail
  refine (fsame_any y mh HY5.out.1 Ag Ah cg ch w8 HY8.out.1 HY5.out.2.1 HY8.out.2.2 HY8.out.2.1).mono ?_
  rintro r w9 ⟨rfl, hB9⟩
  have HB9 := Lib.hid (HB8.out.trans (hB9.mono HB8.out.size))
  clear hB9 a0 a1 a2 a3 a4 hla b0 b1 b2 b3 b4 hlb
  go_wp2_with fail
  go_ret
  exact ⟨rfl, HB9.out⟩
end Go.Proofs.YthfgkkpibkkiaaaDoor
