/- Label: its walk. -/
import Derived.Test.YtijfedahhgcfpaaDoorNf
import Derived.Test.YtijfedahhgcfpaaDoorNc
import Derived.Lib.ItoaLen
set_option linter.unusedVariables false
set_option linter.unusedSimpArgs false
namespace Go.Proofs.YtijfedahhgcfpaaDoor
open Go.RowKit Go.Proofs.YtijfedahhgcfpaaDoorW.PrintWords Go.Proofs.YtijfedahhgcfpaaDoorW.PrintLast

theorem pred_label (x : Nat) (hx : x ≤ 1114111) (w : World) :
    Calls Tryd.prog 34 #[.int .i32 x] w fun e w' => e = .returned (.bool (!letN x)) ∧ Below w.heap.size w w' := by
  go_enter Tryd.func34, Tryd.ntmps34
  go_wp2_with fail
  refine (contains_anyL x hx w).mono ?_
  rintro e w' ⟨rfl, hB⟩
  have HB := Lib.hid hB
  clear hB
  go_wp2_with fail
  go_ret
  exact ⟨rfl, HB.out⟩

set_option maxRecDepth 100000 in
theorem label_any (s : ByteArray) (w : World) :
    Calls Tryd.prog 15 #[.string s] w fun e w' => e = .returned (.bool (labelB s)) ∧ Below w.heap.size w w' := by
  have eg : ∀ args w, (callFunc 34 args).run Tryd.prog w = .ok (.enter 34 args) w := enters_of Tryd.func34 (by kernel_rfl) rfl
  have hp : PredGrows Tryd.prog 34 #[] (fun x => !letN x) w := fun W x hx _ => pred_label x hx W
  have hc := Tryd.strings_ContainsFunc_grows 34 #[] eg (fun x => !letN x) s w hp
  have hi : decide (0 ≤ Lib.idxFunc (fun x => !letN x) true s) = !(s.data.toList.all fun b => letN b.toNat) := by
    have := idx_badL s s.size 0 (by omega)
    rw [List.drop_zero] at this
    exact this
  rw [hi] at hc
  obtain ⟨q, hq⟩ : ∃ q, q = s.data.toList.all fun b => letN b.toNat := ⟨_, rfl⟩
  have e : labelB s = (decide (0 < s.size ∧ s.size ≤ 24) && q) := by rw [hq]; rfl
  rw [e]
  rw [← hq] at hc
  have HC := Lib.hid hc
  clear hc hi hp eg hq e
  by_cases h0 : s = ByteArray.empty
  · subst h0
    go_enter Tryd.func15, Tryd.ntmps15
    go_wp2_with fail
    refine HC.out.mono ?_
    rintro e w' ⟨rfl, hB⟩
    have HB := Lib.hid hB
    clear hB
    go_wp2_with fail
    go_ret
    exact ⟨by simp, HB.out⟩
  · have hs : 0 < s.size := by
      rcases Nat.eq_zero_or_pos s.size with h | h
      · exact absurd (by cases s; simp [ByteArray.size] at h; subst h; rfl) h0
      · exact h
    have hne : s.toList.isEmpty = false := by
      rw [ByteArray.toList_eq, List.isEmpty_eq_false_iff]
      intro h
      have : s.data.toList.length = 0 := by rw [h]; rfl
      have h2 : s.data.toList.length = s.size := by rw [Array.length_toList]; rfl
      omega
    have HS := Lib.hid hs
    clear hs h0
    by_cases h64 : s.size ≤ 24
    · have h1 : ((s.size : Int) ≤ 24) := by omega
      go_enter Tryd.func15, Tryd.ntmps15
      go_wp2_with fail
      refine HC.out.mono ?_
      rintro e w' ⟨rfl, hB⟩
      have HB := Lib.hid hB
      clear hB
      go_wp2_with fail
      go_ret
      exact ⟨by simp [h64, HS.out], HB.out⟩
    · have h1 : ¬ ((s.size : Int) ≤ 24) := by omega
      go_enter Tryd.func15, Tryd.ntmps15
      go_wp2_with fail
      refine HC.out.mono ?_
      rintro e w' ⟨rfl, hB⟩
      have HB := Lib.hid hB
      clear hB
      go_wp2_with fail
      go_ret
      exact ⟨by simp [h64], HB.out⟩
end Go.Proofs.YtijfedahhgcfpaaDoor
/- prim.Right: its walk. -/
set_option linter.unusedVariables false
set_option linter.unusedSimpArgs false
namespace Go.Proofs.YtijfedahhgcfpaaDoor
open Go.RowKit Go.Proofs.YtijfedahhgcfpaaDoorW.PrintWords Go.Proofs.YtijfedahhgcfpaaDoorW.PrintLast

theorem str_empty {s : ByteArray} (h : ¬ s = ⟨#[]⟩) : s.toList.isEmpty = false := by
  rw [ByteArray.toList_eq, List.isEmpty_eq_false_iff]
  intro h'
  apply h
  cases s
  simp at h'
  subst h'
  rfl
theorem cells7p {W : World} {g : Nat} {a b c d e f h : Value} {t : TypeId} (k : W.heap[g]? = some (.cells #[a, b, c, d, e, f, h] t (0, 0))) :
    W.cell? ⟨g, 0, none⟩ = some a ∧ W.cell? ⟨g, 1, none⟩ = some b ∧ W.cell? ⟨g, 2, none⟩ = some c ∧ W.cell? ⟨g, 3, none⟩ = some d ∧ W.cell? ⟨g, 4, none⟩ = some e ∧ W.cell? ⟨g, 5, none⟩ = some f ∧ W.cell? ⟨g, 6, none⟩ = some h :=
  ⟨by simpa using blk_cell k 0, by simpa using blk_cell k 1, by simpa using blk_cell k 2, by simpa using blk_cell k 3, by simpa using blk_cell k 4, by simpa using blk_cell k 5, by simpa using blk_cell k 6⟩
theorem bytes_injN {a b : ByteArray} (h : a.data.toList = b.data.toList) : a = b := by
  cases a; cases b
  simp at h
  exact congrArg ByteArray.mk (Array.toList_inj.1 (by simpa using h))
theorem eqU (a b : ByteArray) : (a.toList == b.toList) = decide (a = b) := by
  rw [ByteArray.toList_eq, ByteArray.toList_eq, Bool.eq_iff_iff, beq_iff_eq, decide_eq_true_iff]
  exact ⟨bytes_injN, fun h => by rw [h]⟩
def sizesOk (x : Prm) : Prop := x.f1.size ≤ 140737488351232 ∧ x.f2.size ≤ 140737488351232 ∧ x.f3.size ≤ 140737488351232 ∧ x.f5.length ≤ 1000000000 ∧ x.f6.length ≤ 1000000000
set_option maxRecDepth 100000 in
set_option maxHeartbeats 16000000 in
theorem prim_any (x : Prm) (A5 A6 : Option Addr) (n5 n6 c5 c6 : Nat) (w : World) (hn5 : x.f5.length = n5) (hn6 : x.f6.length = n6) (hs : sizesOk x) (h5 : Kd.string.C w A5 n5 x.f5) (h6 : Kd.string.C w A6 n6 x.f6) :
    Calls Tryd.prog 14 #[.agg #[.int .i64 x.f0, .string x.f1, .string x.f2, .string x.f3, .int .i64 x.f4, .slice A5 n5 c5, .slice A6 n6 c6]] w fun e w' => e = .returned (.bool (primR x)) ∧ Below w.heap.size w w' := by
  obtain ⟨f0, f1, f2, f3, f4, f5, f6⟩ := x
  simp only at hn5 hn6 h5 h6 ⊢
  obtain ⟨s1, s2, s3, s5, s6⟩ := hs
  simp only at s1 s2 s3 s5 s6
  rw [hn5] at s5
  rw [hn6] at s6
  have b5 : (n5 : Int) ≤ 1000000000 := by omega
  have b6 : (n6 : Int) ≤ 1000000000 := by omega
  have HP1 := Lib.hid (fun W => pright f1 W s1)
  have HP2 := Lib.hid (fun W => pright f2 W s2)
  have HT3 := Lib.hid (fun W => Ln.token_any f3 W s3)
  have HT2 := Lib.hid (fun W => Ln.token_any f2 W s2)
  have HAP := Lib.hid (fun W => papart f1 f2 W)
  have HL5 := Lib.hid (fun W (hB : Below w.heap.size w W) => Ln.right_any A5 n5 c5 f5 hn5 W (Kd.C_below h5 hB) (by omega))
  have HL6 := Lib.hid (fun W (hB : Below w.heap.size w W) => Ln.right_any A6 n6 c6 f6 hn6 W (Kd.C_below h6 hB) (by omega))
  obtain ⟨r1, hr1⟩ : ∃ r, r = right 16 8 (bl f1) := ⟨_, rfl⟩
  obtain ⟨r2, hr2⟩ : ∃ r, r = right 16 8 (bl f2) := ⟨_, rfl⟩
  obtain ⟨t3, ht3⟩ : ∃ r, r = Ln.tokenB f3.data.toList := ⟨_, rfl⟩
  obtain ⟨t2, ht2⟩ : ∃ r, r = Ln.tokenB f2.data.toList := ⟨_, rfl⟩
  obtain ⟨ap, hap⟩ : ∃ r, r = (!withinB (bl f1) (bl f2) && !withinB (bl f2) (bl f1)) := ⟨_, rfl⟩
  obtain ⟨q5, hq5⟩ : ∃ r, r = Ln.rightB f5 := ⟨_, rfl⟩
  obtain ⟨q6, hq6⟩ : ∃ r, r = Ln.rightB f6 := ⟨_, rfl⟩
  rw [← hr1] at HP1
  rw [← hr2] at HP2
  rw [← ht3] at HT3
  rw [← ht2] at HT2
  rw [← hap] at HAP
  rw [← hq5] at HL5
  rw [← hq6] at HL6
  have hR : primR ⟨f0, f1, f2, f3, f4, f5, f6⟩ = (if r1 = false ∨ ((0 < n5 + n6 ∨ f4 ≠ 0) ∧ f0 ≠ 7) then false
      else if f0 = 8 then t3 && t2 && decide (f3 ≠ f2)
      else if f0 = 9 then decide (f3 ≠ f2)
      else if f3 ≠ ⟨#[]⟩ then false
      else if f0 = 10 then r2 && ap
      else if f0 = 7 then decide (f2 = ⟨#[]⟩) && decide (0 ≤ f4) && decide (f4 ≤ 1073741824) && q5 && q6 && decide (0 < n5 + n6)
      else decide (f2 = ⟨#[]⟩) && decide (1 ≤ f0) && decide (f0 ≤ 6)) := by
    unfold primR tokB
    simp only
    rw [hr1, hr2, ht3, ht2, hap, hq5, hq6, hn5, hn6]
  obtain ⟨RR, hRR⟩ : ∃ r, r = primR ⟨f0, f1, f2, f3, f4, f5, f6⟩ := ⟨_, rfl⟩
  rw [← hRR] at hR ⊢
  have HR := Lib.hid hR
  clear hR hRR hr1 hr2 ht3 ht2 hap hq5 hq6 h5 h6 hn5 hn6 s1 s2 s3 s5 s6
  obtain ⟨w1, hw1⟩ : ∃ w1, w1 = w.alloc (.cells #[.int .i64 f0, .string f1, .string f2, .string f3, .int .i64 f4, .slice A5 n5 c5, .slice A6 n6 c6] 39) := ⟨_, rfl⟩
  have hB1 : Below w.heap.size w w1 := by rw [hw1]; exact (Below.refl _ _).alloc (Nat.le_refl _) _
  have hb1 : w1.heap[w.heap.size]? = some (.cells #[.int .i64 f0, .string f1, .string f2, .string f3, .int .i64 f4, .slice A5 n5 c5, .slice A6 n6 c6] 39 (0, 0)) := by rw [hw1]; exact heap_alloc_new w _
  have HW := Lib.hid hw1
  have HB1 := Lib.hid (And.intro hB1 hb1)
  clear hw1 hB1 hb1
  rcases Nat.lt_or_ge 0 (n5 + n6) with hL | hL
  · have XhL := Lib.hid hL
    have hI : (0 : Int) < (n5 : Int) + (n6 : Int) := by omega
    go_enter Tryd.func14, Tryd.ntmps14
    obtain ⟨g0, g1, g2, g3, g4, g5, g6⟩ := cells7p HB1.out.2
    have gl := blk_lt HB1.out.2
    go_wp2_with fail
    rw [← HW.out]
    refine (HP1.out w1).mono ?_
    rintro e w2 ⟨rfl, hB2⟩
    have HB2 := Lib.hid (And.intro (HB1.out.1.trans (hB2.mono HB1.out.1.size)) (blk_below HB1.out.2 hB2))
    clear hB2
    clear g0 g1 g2 g3 g4 g5 g6 gl
    obtain ⟨g0, g1, g2, g3, g4, g5, g6⟩ := cells7p HB2.out.2
    have gl := blk_lt HB2.out.2
    cases r1 with
    | false =>
      go_wp2_with fail
      go_ret
      exact ⟨by rw [HR.out]; simp, HB2.out.1⟩
    | true =>
      by_cases hf : f0 = 7
      · have Xhf := Lib.hid (eq_true hf)
        subst hf
        by_cases h3 : f3 = ⟨#[]⟩
        · have Xh3 := Lib.hid (eq_true h3)
          subst h3
          by_cases h2 : f2 = ⟨#[]⟩
          · have Xh2 := Lib.hid (eq_true h2)
            subst h2
            by_cases p0 : 0 ≤ f4
            · have Xp0 := Lib.hid (eq_true p0)
              by_cases p1 : f4 ≤ 1073741824
              · have Xp1 := Lib.hid (eq_true p1)
                go_wp2_with fail
                refine (HL5.out _ HB2.out.1).mono ?_
                rintro e w9 ⟨rfl, hw9⟩
                rw [hw9]
                clear hw9 w9
                cases q5 with
                | false =>
                  go_wp2_with fail
                  go_ret
                  exact ⟨by rw [HR.out]; simp [Xp0.out, Xp1.out, XhL.out], HB2.out.1⟩
                | true =>
                  go_wp2_with fail
                  refine (HL6.out _ HB2.out.1).mono ?_
                  rintro e w9 ⟨rfl, hw9⟩
                  rw [hw9]
                  clear hw9 w9
                  cases q6 with
                  | false =>
                    go_wp2_with fail
                    go_ret
                    exact ⟨by rw [HR.out]; simp [Xp0.out, Xp1.out, XhL.out], HB2.out.1⟩
                  | true =>
                    go_wp2_with fail
                    go_ret
                    exact ⟨by rw [HR.out]; simp [Xp0.out, Xp1.out, XhL.out], HB2.out.1⟩
              · have Xp1 := Lib.hid (eq_false p1)
                go_wp2_with fail
                go_ret
                exact ⟨by rw [HR.out]; simp [Xp0.out, Xp1.out, XhL.out], HB2.out.1⟩
            · have Xp0 := Lib.hid (eq_false p0)
              go_wp2_with fail
              go_ret
              exact ⟨by rw [HR.out]; simp [Xp0.out, XhL.out], HB2.out.1⟩
          · have Xh2 := Lib.hid (eq_false h2)
            have he2 := str_empty h2
            have H2 := Lib.hid h2
            clear h2
            go_wp2_with fail
            go_ret
            exact ⟨by rw [HR.out]; simp [H2.out, XhL.out], HB2.out.1⟩
        · have Xh3 := Lib.hid (eq_false h3)
          have he3 := str_empty h3
          have H3 := Lib.hid h3
          clear h3
          go_wp2_with fail
          go_ret
          exact ⟨by rw [HR.out]; simp [H3.out, XhL.out], HB2.out.1⟩
      · have Xhf := Lib.hid (eq_false hf)
        go_wp2_with fail
        go_ret
        exact ⟨by rw [HR.out]; simp [Xhf.out, XhL.out], HB2.out.1⟩
  · have XhL := Lib.hid (show True from trivial)
    obtain rfl : n5 = 0 := by omega
    obtain rfl : n6 = 0 := by omega
    by_cases hL4 : f4 = 0
    · subst hL4
      go_enter Tryd.func14, Tryd.ntmps14
      obtain ⟨g0, g1, g2, g3, g4, g5, g6⟩ := cells7p HB1.out.2
      have gl := blk_lt HB1.out.2
      go_wp2_with fail
      rw [← HW.out]
      refine (HP1.out w1).mono ?_
      rintro e w2 ⟨rfl, hB2⟩
      have HB2 := Lib.hid (And.intro (HB1.out.1.trans (hB2.mono HB1.out.1.size)) (blk_below HB1.out.2 hB2))
      clear hB2
      clear g0 g1 g2 g3 g4 g5 g6 gl
      obtain ⟨g0, g1, g2, g3, g4, g5, g6⟩ := cells7p HB2.out.2
      have gl := blk_lt HB2.out.2
      cases r1 with
      | false =>
        go_wp2_with fail
        go_ret
        exact ⟨by rw [HR.out]; simp, HB2.out.1⟩
      | true =>
        by_cases h8 : f0 = 8
        · have Xh8 := Lib.hid (eq_true h8)
          subst h8
          go_wp2_with fail
          refine (HT3.out _).mono ?_
          rintro e w9 ⟨rfl, hw9⟩
          rw [hw9]
          clear hw9 w9
          cases t3 with
          | false =>
            go_wp2_with fail
            go_ret
            exact ⟨by rw [HR.out]; simp [XhL.out], HB2.out.1⟩
          | true =>
            go_wp2_with fail
            refine (HT2.out _).mono ?_
            rintro e w9 ⟨rfl, hw9⟩
            rw [hw9]
            clear hw9 w9
            cases t2 with
            | false =>
              go_wp2_with fail
              go_ret
              exact ⟨by rw [HR.out]; simp [XhL.out], HB2.out.1⟩
            | true =>
              by_cases h32 : f3 = f2
              · have Xh32 := Lib.hid (eq_true h32)
                have hq : (f3.toList == f2.toList) = true := by rw [eqU]; exact decide_eq_true h32
                have H32 := Lib.hid h32
                clear h32
                go_wp2_with fail
                go_ret
                exact ⟨by rw [HR.out]; simp [H32.out, XhL.out], HB2.out.1⟩
              · have Xh32 := Lib.hid (eq_false h32)
                have hq : (f3.toList == f2.toList) = false := by rw [eqU]; exact decide_eq_false h32
                have H32 := Lib.hid h32
                clear h32
                go_wp2_with fail
                go_ret
                exact ⟨by rw [HR.out]; simp [H32.out, XhL.out], HB2.out.1⟩
        · have Xh8 := Lib.hid (eq_false h8)
          by_cases h9 : f0 = 9
          · have Xh9 := Lib.hid (eq_true h9)
            subst h9
            by_cases h32 : f3 = f2
            · have Xh32 := Lib.hid (eq_true h32)
              have hq : (f3.toList == f2.toList) = true := by rw [eqU]; exact decide_eq_true h32
              have H32 := Lib.hid h32
              clear h32
              go_wp2_with fail
              go_ret
              exact ⟨by rw [HR.out]; simp [H32.out, XhL.out], HB2.out.1⟩
            · have Xh32 := Lib.hid (eq_false h32)
              have hq : (f3.toList == f2.toList) = false := by rw [eqU]; exact decide_eq_false h32
              have H32 := Lib.hid h32
              clear h32
              go_wp2_with fail
              go_ret
              exact ⟨by rw [HR.out]; simp [H32.out, XhL.out], HB2.out.1⟩
          · have Xh9 := Lib.hid (eq_false h9)
            by_cases h3 : f3 = ⟨#[]⟩
            · have Xh3 := Lib.hid (eq_true h3)
              subst h3
              by_cases h10 : f0 = 10
              · have Xh10 := Lib.hid (eq_true h10)
                subst h10
                go_wp2_with fail
                refine (HP2.out w2).mono ?_
                rintro e w3 ⟨rfl, hB3⟩
                have HB3 := Lib.hid (And.intro (HB2.out.1.trans (hB3.mono HB2.out.1.size)) (blk_below HB2.out.2 hB3))
                clear hB3
                clear g0 g1 g2 g3 g4 g5 g6 gl
                obtain ⟨g0, g1, g2, g3, g4, g5, g6⟩ := cells7p HB3.out.2
                have gl := blk_lt HB3.out.2
                cases r2 with
                | false =>
                  go_wp2_with fail
                  go_ret
                  exact ⟨by rw [HR.out]; simp [XhL.out], HB3.out.1⟩
                | true =>
                  go_wp2_with fail
                  refine (HAP.out w3).mono ?_
                  rintro e w4 ⟨rfl, hB4⟩
                  have HB4 := Lib.hid (And.intro (HB3.out.1.trans (hB4.mono HB3.out.1.size)) (blk_below HB3.out.2 hB4))
                  clear hB4
                  clear g0 g1 g2 g3 g4 g5 g6 gl
                  obtain ⟨g0, g1, g2, g3, g4, g5, g6⟩ := cells7p HB4.out.2
                  have gl := blk_lt HB4.out.2
                  go_wp2_with fail
                  go_ret
                  exact ⟨by rw [HR.out]; simp [XhL.out], HB4.out.1⟩
              · have Xh10 := Lib.hid (eq_false h10)
                by_cases h7 : f0 = 7
                · have Xh7 := Lib.hid (eq_true h7)
                  subst h7
                  by_cases h2 : f2 = ⟨#[]⟩
                  · have Xh2 := Lib.hid (eq_true h2)
                    subst h2
                    go_wp2_with fail
                    refine (HL5.out _ HB2.out.1).mono ?_
                    rintro e w9 ⟨rfl, hw9⟩
                    rw [hw9]
                    clear hw9 w9
                    cases q5 with
                    | false =>
                      go_wp2_with fail
                      go_ret
                      exact ⟨by rw [HR.out]; simp [XhL.out], HB2.out.1⟩
                    | true =>
                      go_wp2_with fail
                      refine (HL6.out _ HB2.out.1).mono ?_
                      rintro e w9 ⟨rfl, hw9⟩
                      rw [hw9]
                      clear hw9 w9
                      cases q6 with
                      | false =>
                        go_wp2_with fail
                        go_ret
                        exact ⟨by rw [HR.out]; simp [XhL.out], HB2.out.1⟩
                      | true =>
                        go_wp2_with fail
                        go_ret
                        exact ⟨by rw [HR.out]; simp [XhL.out], HB2.out.1⟩
                  · have Xh2 := Lib.hid (eq_false h2)
                    have he2 := str_empty h2
                    have H2 := Lib.hid h2
                    clear h2
                    go_wp2_with fail
                    go_ret
                    exact ⟨by rw [HR.out]; simp [H2.out, XhL.out], HB2.out.1⟩
                · have Xh7 := Lib.hid (eq_false h7)
                  by_cases h2 : f2 = ⟨#[]⟩
                  · have Xh2 := Lib.hid (eq_true h2)
                    subst h2
                    by_cases p1 : 1 ≤ f0
                    · have Xp1 := Lib.hid (eq_true p1)
                      by_cases p6 : f0 ≤ 6
                      · have Xp6 := Lib.hid (eq_true p6)
                        go_wp2_with fail
                        go_ret
                        exact ⟨by rw [HR.out]; simp [Xh7.out, Xh8.out, Xh9.out, Xh10.out, XhL.out, Xp1.out, Xp6.out], HB2.out.1⟩
                      · have Xp6 := Lib.hid (eq_false p6)
                        go_wp2_with fail
                        go_ret
                        exact ⟨by rw [HR.out]; simp [Xh7.out, Xh8.out, Xh9.out, Xh10.out, XhL.out, Xp1.out, Xp6.out], HB2.out.1⟩
                    · have Xp1 := Lib.hid (eq_false p1)
                      go_wp2_with fail
                      go_ret
                      exact ⟨by rw [HR.out]; simp [Xh7.out, Xh8.out, Xh9.out, Xh10.out, XhL.out, Xp1.out], HB2.out.1⟩
                  · have Xh2 := Lib.hid (eq_false h2)
                    have he2 := str_empty h2
                    have H2 := Lib.hid h2
                    clear h2
                    go_wp2_with fail
                    go_ret
                    exact ⟨by rw [HR.out]; simp [H2.out, Xh7.out, Xh8.out, Xh9.out, Xh10.out, XhL.out], HB2.out.1⟩
            · have Xh3 := Lib.hid (eq_false h3)
              have he3 := str_empty h3
              have H3 := Lib.hid h3
              clear h3
              go_wp2_with fail
              go_ret
              exact ⟨by rw [HR.out]; simp [H3.out, Xh8.out, Xh9.out, XhL.out], HB2.out.1⟩
    · have XhL := Lib.hid hL4
      go_enter Tryd.func14, Tryd.ntmps14
      obtain ⟨g0, g1, g2, g3, g4, g5, g6⟩ := cells7p HB1.out.2
      have gl := blk_lt HB1.out.2
      go_wp2_with fail
      rw [← HW.out]
      refine (HP1.out w1).mono ?_
      rintro e w2 ⟨rfl, hB2⟩
      have HB2 := Lib.hid (And.intro (HB1.out.1.trans (hB2.mono HB1.out.1.size)) (blk_below HB1.out.2 hB2))
      clear hB2
      clear g0 g1 g2 g3 g4 g5 g6 gl
      obtain ⟨g0, g1, g2, g3, g4, g5, g6⟩ := cells7p HB2.out.2
      have gl := blk_lt HB2.out.2
      cases r1 with
      | false =>
        go_wp2_with fail
        go_ret
        exact ⟨by rw [HR.out]; simp, HB2.out.1⟩
      | true =>
        by_cases hf : f0 = 7
        · have Xhf := Lib.hid (eq_true hf)
          subst hf
          by_cases h3 : f3 = ⟨#[]⟩
          · have Xh3 := Lib.hid (eq_true h3)
            subst h3
            by_cases h2 : f2 = ⟨#[]⟩
            · have Xh2 := Lib.hid (eq_true h2)
              subst h2
              by_cases p0 : 0 ≤ f4
              · have Xp0 := Lib.hid (eq_true p0)
                by_cases p1 : f4 ≤ 1073741824
                · have Xp1 := Lib.hid (eq_true p1)
                  go_wp2_with fail
                  refine (HL5.out _ HB2.out.1).mono ?_
                  rintro e w9 ⟨rfl, hw9⟩
                  rw [hw9]
                  clear hw9 w9
                  cases q5 with
                  | false =>
                    go_wp2_with fail
                    go_ret
                    exact ⟨by rw [HR.out]; simp [Xp0.out, Xp1.out, XhL.out], HB2.out.1⟩
                  | true =>
                    go_wp2_with fail
                    refine (HL6.out _ HB2.out.1).mono ?_
                    rintro e w9 ⟨rfl, hw9⟩
                    rw [hw9]
                    clear hw9 w9
                    cases q6 with
                    | false =>
                      go_wp2_with fail
                      go_ret
                      exact ⟨by rw [HR.out]; simp [Xp0.out, Xp1.out, XhL.out], HB2.out.1⟩
                    | true =>
                      go_wp2_with fail
                      go_ret
                      exact ⟨by rw [HR.out]; simp [Xp0.out, Xp1.out, XhL.out], HB2.out.1⟩
                · have Xp1 := Lib.hid (eq_false p1)
                  go_wp2_with fail
                  go_ret
                  exact ⟨by rw [HR.out]; simp [Xp0.out, Xp1.out, XhL.out], HB2.out.1⟩
              · have Xp0 := Lib.hid (eq_false p0)
                go_wp2_with fail
                go_ret
                exact ⟨by rw [HR.out]; simp [Xp0.out, XhL.out], HB2.out.1⟩
            · have Xh2 := Lib.hid (eq_false h2)
              have he2 := str_empty h2
              have H2 := Lib.hid h2
              clear h2
              go_wp2_with fail
              go_ret
              exact ⟨by rw [HR.out]; simp [H2.out, XhL.out], HB2.out.1⟩
          · have Xh3 := Lib.hid (eq_false h3)
            have he3 := str_empty h3
            have H3 := Lib.hid h3
            clear h3
            go_wp2_with fail
            go_ret
            exact ⟨by rw [HR.out]; simp [H3.out, XhL.out], HB2.out.1⟩
        · have Xhf := Lib.hid (eq_false hf)
          have hbb : (f4 != 0 && f0 != 7) = true := by simp [hL4, hf]
          go_wp2_with fail
          go_ret
          exact ⟨by rw [HR.out]; simp [Xhf.out, XhL.out], HB2.out.1⟩
end Go.Proofs.YtijfedahhgcfpaaDoor
/- Patches' bytes: how many. Plain. -/
set_option linter.unusedVariables false
set_option linter.unusedSimpArgs false
namespace Go.Proofs.YtijfedahhgcfpaaDoor
open Go.RowKit Go.Proofs.YtijfedahhgcfpaaDoorW.PrintWords Go.Proofs.YtijfedahhgcfpaaDoorW.PrintLast

theorem numI_lo (n : Nat) : 2 ≤ (numI (n : Int)).length := by
  rw [numI_nat]
  unfold numE
  rw [List.length_append, List.length_singleton]
  have := List.length_pos_iff.2 (decDigits_pos n)
  omega
theorem numI_hi {n : Int} (h : numOk n) : (numI n).length ≤ 22 := by
  unfold numI
  rw [List.length_append, List.length_singleton]
  have := Lib.itoa_length_le n (by have := h.1; omega) (by have := h.2; omega)
  omega
theorem textE_lo (s : ByteArray) : s.size + 2 ≤ (textE s).length := by
  unfold textE
  rw [List.length_append]
  have := numI_lo s.size
  have : s.data.toList.length = s.size := by simp
  omega
theorem textE_hi {s : ByteArray} (h : s.size < 4000) : (textE s).length ≤ 4022 := by
  unfold textE
  rw [List.length_append]
  have := numI_hi (n := (s.size : Int)) ⟨by omega, by omega⟩
  have : s.data.toList.length = s.size := by simp
  omega
theorem flat_lo {α : Type} (E : α → List UInt8) (k : Nat) (l : List α) (h : ∀ x ∈ l, k ≤ (E x).length) : l.length * k ≤ ((l.map E).flatten).length := by
  induction l with
  | nil => simp
  | cons x l ih =>
    simp only [List.length_cons, List.map_cons, List.flatten_cons, List.length_append]
    rw [Nat.succ_mul]
    have := ih (fun y hy => h y (by simp [hy]))
    have := h x (by simp)
    omega
theorem flat_hi {α : Type} (E : α → List UInt8) (k : Nat) (l : List α) (h : ∀ x ∈ l, (E x).length ≤ k) : ((l.map E).flatten).length ≤ l.length * k := by
  induction l with
  | nil => simp
  | cons x l ih =>
    simp only [List.length_cons, List.map_cons, List.flatten_cons, List.length_append]
    rw [Nat.succ_mul]
    have := ih (fun y hy => h y (by simp [hy]))
    have := h x (by simp)
    omega
theorem flat_mem {α : Type} (E : α → List UInt8) (l : List α) {x : α} (h : x ∈ l) : (E x).length ≤ ((l.map E).flatten).length := by
  induction l with
  | nil => cases h
  | cons y l ih =>
    simp only [List.map_cons, List.flatten_cons, List.length_append]
    rcases List.mem_cons.1 h with rfl | h
    · omega
    · have := ih h
      omega
theorem texts_lo (l : List ByteArray) : l.length ≤ (listE textE l).length := by
  unfold listE
  rw [List.length_append]
  have := flat_lo textE 1 l (fun x _ => by have := textE_lo x; omega)
  omega
def lessTexts (l : List ByteArray) : Prop := l.length < 4000 ∧ ∀ s ∈ l, s.size < 4000
theorem texts_hi {l : List ByteArray} (h : lessTexts l) : (listE textE l).length ≤ 16088022 := by
  unfold listE
  rw [List.length_append]
  have h1 := flat_hi textE 4022 l (fun x hx => textE_hi (h.2 x hx))
  have h2 := numI_hi (n := (l.length : Int)) ⟨by omega, by have := h.1; omega⟩
  have h3 : l.length * 4022 ≤ 4000 * 4022 := Nat.mul_le_mul_right _ (by have := h.1; omega)
  omega
def lessP (x : Prm) : Prop := x.f1.size < 4000 ∧ x.f2.size < 4000 ∧ x.f3.size < 4000 ∧ lessTexts x.f5 ∧ lessTexts x.f6
theorem lessP.sizes {x : Prm} (h : lessP x) : sizesOk x := by
  obtain ⟨h1, h2, h3, h4, h5⟩ := h
  have := h4.1
  have := h5.1
  unfold sizesOk
  omega
structure LessPat (p : Pat) : Prop where
  name : p.name.size < 4000
  deps : lessTexts p.deps
  few : p.body.length ≤ 60
  body : ∀ x ∈ p.body, lessP x
theorem primR_nums {x : Prm} (h : primR x = true) : numOk x.f0 ∧ numOk x.f4 := by
  unfold primR at h
  unfold numOk
  split at h
  · cases h
  · rename_i h0
    have h0' : x.f4 ≠ 0 → x.f0 = 7 := fun h4 => Classical.byContradiction fun h7 => h0 (.inr ⟨.inr h4, h7⟩)
    by_cases h4 : x.f4 = 0
    · rw [h4]
      refine ⟨?_, by omega⟩
      split at h
      · omega
      · split at h
        · omega
        · split at h
          · cases h
          · split at h
            · omega
            · split at h
              · omega
              · simp at h
                omega
    · have h7 := h0' h4
      rw [h7] at h ⊢
      refine ⟨by omega, ?_⟩
      rw [if_neg (by decide), if_neg (by decide)] at h
      split at h
      · cases h
      · rw [if_neg (by decide), if_pos rfl] at h
        simp at h
        omega
theorem primE_hi {x : Prm} (h : lessP x) (hr : primR x = true) : (primE x).length ≤ 32200000 := by
  obtain ⟨n0, n4⟩ := primR_nums hr
  obtain ⟨h1, h2, h3, h5, h6⟩ := h
  have := numI_hi n0
  have := numI_hi n4
  have := textE_hi h1
  have := textE_hi h2
  have := textE_hi h3
  have := texts_hi h5
  have := texts_hi h6
  unfold primE
  simp only [List.length_append]
  omega
theorem patR_parts {p : Pat} (h : patR p = true) : labelB p.name = true ∧ p.deps.length ≤ 256 ∧ p.body.length ≤ 256 ∧ depsR p.name p.deps = true ∧ p.body.all primR = true := by
  unfold patR at h
  simp only [Bool.and_eq_true, decide_eq_true_iff] at h
  obtain ⟨⟨⟨⟨h1, h2⟩, h3⟩, h4⟩, h5⟩ := h
  exact ⟨h1, h2, h3, h4, h5⟩
theorem patE_hi {p : Pat} (h : LessPat p) (hr : patR p = true) : (patE p).length ≤ 2000000000 := by
  have hp := (patR_parts hr).2.2.2.2
  rw [List.all_eq_true] at hp
  have h1 := textE_hi h.name
  have h2 := texts_hi h.deps
  have h3 := flat_hi primE 32200000 p.body (fun x hx => primE_hi (h.body x hx) (hp x hx))
  have h4 := numI_hi (n := (p.body.length : Int)) ⟨by omega, by have := h.few; omega⟩
  have h5 : p.body.length * 32200000 ≤ 60 * 32200000 := Nat.mul_le_mul_right _ h.few
  unfold patE
  simp only [List.length_append]
  unfold listE at h2 ⊢
  simp only [List.length_append] at h2 ⊢
  omega
theorem patOk_of {p : Pat} (h : LessPat p) (hr : patR p = true) : patOk p := by
  have hp := (patR_parts hr).2.2.2.2
  rw [List.all_eq_true] at hp
  have ht : ∀ l, lessTexts l → listOk textOk l := fun l hl => ⟨by have := hl.1; omega, fun s hs => by have := hl.2 s hs; unfold textOk; omega⟩
  refine ⟨by have := h.name; unfold textOk; omega, ht _ h.deps, by have := h.few; omega, fun x hx => ?_⟩
  obtain ⟨n0, n4⟩ := primR_nums (hp x hx)
  obtain ⟨k1, k2, k3, k5, k6⟩ := h.body x hx
  exact ⟨n0, by unfold textOk; omega, by unfold textOk; omega, by unfold textOk; omega, n4, ht _ k5, ht _ k6⟩
/-- What a patch's bytes bound. -/
theorem pat_sizes (p : Pat) (k : Nat) (h : (patE p).length ≤ k) (hk : k ≤ 1000000000) : p.deps.length ≤ 1000000000 ∧ p.body.length ≤ 1000000000 ∧ ∀ x ∈ p.body, sizesOk x := by
  unfold patE at h
  simp only [List.length_append] at h
  have h1 := texts_lo p.deps
  unfold listE at h
  simp only [List.length_append] at h
  have h2 := flat_lo primE 1 p.body (fun x _ => by
    unfold primE
    simp only [List.length_append]
    have := textE_lo x.f1
    omega)
  refine ⟨?_, by omega, fun x hx => ?_⟩
  · unfold listE at h1
    simp only [List.length_append] at h1
    omega
  · have h3 := flat_mem primE p.body hx
    have e : (primE x).length = (numI x.f0).length + ((textE x.f1).length + ((textE x.f2).length + ((textE x.f3).length + ((numI x.f4).length + ((listE textE x.f5).length + (listE textE x.f6).length))))) := by
      unfold primE
      simp only [List.length_append]
    have := textE_lo x.f1
    have := textE_lo x.f2
    have := textE_lo x.f3
    have := texts_lo x.f5
    have := texts_lo x.f6
    unfold sizesOk
    omega
end Go.Proofs.YtijfedahhgcfpaaDoor
