/- DatagramCopies' walk: for every packet and number it comes to true. -/
import Derived.Test.YtjkgkkopfpkdfaaSame
set_option linter.unusedVariables false
set_option linter.unusedSimpArgs false
namespace Go.Proofs.Ytjkgkkopfpkdfaa
open Go.RowKit Go.Conc Go.Proofs.YtjkgkkopfpkdfaaW.PrintWords Go.Proofs.YtjkgkkopfpkdfaaW.PrintLast

/-- A byte of a row of one's own is read, and written. -/
theorem row_store {w : World} {base n cap : Nat} {A : Option Addr} {xs : List Int} (h : Kd.R (Kd.int .u8) 5 w base (fun _ => True) (.slice A n cap) xs) (hn : xs.length = n) (j : Nat) (hj : j < n) :
    ∃ g y, A = some ⟨g, 0, none⟩ ∧ w.cell? ⟨g, j, none⟩ = some (.int .u8 y) ∧ w.frozen? ⟨g, j, none⟩ = false ∧ base ≤ g ∧ g < w.heap.size ∧
      ∀ x : Int, Kd.R (Kd.int .u8) 5 (w.setCell ⟨g, j, none⟩ (.int .u8 x)) base (fun _ => True) (.slice A n cap) (xs.set j x) := by
  subst hn
  obtain ⟨g, cap', he, hb, hl, _⟩ := Kd.R_form h (by omega)
  obtain ⟨rfl, rfl⟩ : A = some ⟨g, 0, none⟩ ∧ cap = cap' := by injection he with a _ c; exact ⟨a, c⟩
  have ho := Kd.own_of_R h
  obtain ⟨c0, c1⟩ := own_at_of (d := 0) ho (j : Int) (by omega) (by omega)
  refine ⟨g, _, rfl, c0, c1, hb, hl, fun x => ?_⟩
  have hs := (own_store_of ho (j : Int) x).1
  exact Kd.R_of_own (by simpa using hs) (fun _ _ => trivial)

set_option maxRecDepth 100000 in
set_option maxHeartbeats 4000000 in
theorem copies_true (f t : Int) (A : Option Addr) (cp : Nat) (l : List Int) (a : Int) (w : World) (h : Kd.C (Kd.int .u8) w A l.length l) (hc : l.length ≤ cp) (hl : l.length ≤ 140737488351232)
    (ha0 : 0 ≤ a) (ha1 : a ≤ 255) :
    Calls Try.prog 6 #[.agg #[.int .i64 f, .int .i64 t, .slice A l.length cp], .int .u8 a] w fun e w' => e = .returned (.bool true) ∧ Below w.heap.size w w' := by
  obtain ⟨m, rfl⟩ := Int.eq_ofNat_of_zero_le ha0
  have HC := Lib.hid h
  clear h
  go_enter Try.func6, Try.ntmps6
  go_wp2_with fail
  refine (head_true _).mono ?_
  rintro e w1 ⟨rfl, hB⟩
  have b1 := blk_below (blk_new w (.cells #[.int .i64 f, .int .i64 t, .slice A l.length cp] 33)) hB
  have HB1 := Lib.hid (below_then ((Below.refl _ _).alloc (Nat.le_refl _) _) (by simp) hB)
  clear hB
  go_wp2_with fail
  refine (newR w1).mono ?_
  rintro e w2 ⟨nb, c, rfl, n2, hcc, hB⟩
  have b2 := blk_below b1 hB
  obtain ⟨q0, q1, q2, _⟩ := cells3 b2
  have HB2 := Lib.hid (below_then HB1.out HB1.out.size hB)
  have hsz : w.heap.size + 1 ≤ c := by have := blk_lt b1; omega
  have HN2 := Lib.hid n2
  have HBX := Lib.hid b2
  clear hB n2 b1 b2 HB1
  by_cases hbig : 1000 < l.length
  · have d1 : decide ((1000 : Int) < (l.length : Int)) = true := decide_eq_true (by omega)
    go_wp2_with fail
    go_ret
    exact ⟨rfl, HB2.out⟩
  · have d1 : decide ((1000 : Int) < (l.length : Int)) = false := decide_eq_false (by omega)
    go_wp2_with fail
    obtain ⟨k, hk, hk1⟩ : ∃ k : Nat, (m : Int) % 100 = (k : Int) ∧ k < 100 := ⟨m % 100, by omega, by omega⟩
    simp only [hk]
    have hcn := HN2.out.lt
    refine (postR f t A cp l nb c [] [] _ HN2.out (Kd.C_below HC.out HB2.out) hc hl (by simp)).mono ?_
    rintro e w3 ⟨v, rfl, n3, g3⟩
    have HN3 := Lib.hid n3
    have HG3 := Lib.hid (gb_trans (gb_below HB2.out _) g3)
    have HB3 := Lib.hid (gb_blk g3 HBX.out (fun e => by have := Option.some.inj e; omega))
    clear n3 g3 HN2 HB2 HBX q0 q1 q2
    go_wp2_with fail
    go_loopw [8] (fun v wr => ∃ i : Nat, i ≤ k ∧ v = .int .i64 i ∧ (∃ vals, NetOk wr nb c vals (List.replicate (i + 1) ⟨f, t, l⟩)) ∧ w.grownBy wr (some c) ∧ wr.heap[w.heap.size]? = some (.cells #[.int .i64 f, .int .i64 t, .slice A l.length cp] 33 (0, 0))) (fun v _ => 256 - (intOf v).toNat)
    case atStart => exact ⟨0, by omega, rfl, ⟨_, by simpa using HN3.out⟩, HG3.out, HB3.out⟩
    case round =>
      obtain ⟨i, hi, rfl, ⟨vals, hn⟩, hg, hb⟩ := hrel
      by_cases hlt : i < k
      · have d2 : decide ((i : Int) < (k : Int)) = true := decide_eq_true (by omega)
        go_wp2_with fail
        refine (doubleR nb c vals _ i ⟨f, t, l⟩ _ hn (by simp; omega) (by rw [List.getElem?_replicate, if_pos (by omega)])).mono ?_
        rintro e w7 ⟨v7, rfl, n7, g7⟩
        have HN7 := Lib.hid n7
        have HG7 := Lib.hid (gb_trans hg g7)
        have HB7 := Lib.hid (gb_blk g7 hb (fun e => by have := Option.some.inj e; omega))
        clear n7 g7 hn hg hb
        go_wp2_with fail
        go_roundw
        case rel => exact ⟨i + 1, by omega, by go_num, ⟨_, by rw [List.replicate_succ']; exact HN7.out⟩, HG7.out, HB7.out⟩
        case measure => simp [intOf]; omega
      · obtain rfl : i = k := by omega
        have HN4 := Lib.hid hn
        have HG4 := Lib.hid hg
        have HB4 := Lib.hid hb
        clear hn hg hb HN3 HG3 HB3
        go_wp2_with fail
        refine (manyR nb c _ _ _ HN4.out).mono ?_
        rintro e w9 ⟨rfl, rfl⟩
        simp only [List.length_replicate]
        go_wp2_with fail
        go_loopw [9] (fun v wr => ∃ j : Nat, j ≤ i + 1 ∧ v = .int .i64 j ∧ (∃ vals, NetOk wr nb c vals (List.replicate (i + 1 - j) ⟨f, t, l⟩)) ∧ w.grownBy wr (some c) ∧ wr.heap[w.heap.size]? = some (.cells #[.int .i64 f, .int .i64 t, .slice A l.length cp] 33 (0, 0))) (fun v _ => 256 - (intOf v).toNat)
        case atStart => exact ⟨0, by omega, rfl, ⟨_, by simpa using HN4.out⟩, HG4.out, HB4.out⟩
        case round =>
          clear hcn
          obtain ⟨j, hj, rfl, ⟨vals, hn⟩, hg, hb⟩ := hrel
          have hcn := hn.lt
          have hnl := hn.net.lt
          have HN5 := Lib.hid hn
          have HG5 := Lib.hid hg
          have HB5 := Lib.hid hb
          clear hn hg hb HN4 HG4 HB4
          by_cases hle : j ≤ i
          · have d2 : decide ((j : Int) ≤ (i : Int)) = true := decide_eq_true (by omega)
            go_wp2_with fail
            refine (takeR nb c _ _ 0 ⟨f, t, l⟩ _ HN5.out (by simp; omega) (by rw [List.getElem?_replicate, if_pos (by omega)])).mono ?_
            rintro e w6 ⟨A6, c6, rfl, n6, pk6, hc6, C6, ap6, g6⟩
            rw [List.eraseIdx_replicate, if_pos (by omega)] at n6
            have hb6 := gb_blk g6 HB5.out (fun e => by have := Option.some.inj e; omega)
            obtain ⟨q0, q1, q2, _⟩ := cells3 hb6
            have hz6 := g6.size
            have hg6 := gb_trans HG5.out g6
            have HP6 := Lib.hid pk6
            have HN6 := Lib.hid n6
            have HC6 := Lib.hid C6
            have HA6 := Lib.hid ap6
            have HG6 := Lib.hid hg6
            have HB6 := Lib.hid hb6
            clear n6 pk6 C6 ap6 g6 hg6 hb6 HN5 HG5 HB5
            have hlt6 := blk_lt HB6.out
            go_wp2_with fail
            have hR6 : Kd.R (Kd.int .u8) 5 w6 (nb + 1) (fun _ => True) (.slice A6 l.length c6) l := by
              obtain ⟨sv, he, hr⟩ := HP6.out
              obtain rfl : Value.slice A6 l.length c6 = sv := by injection he with he; injection he with he; injection he with _ he; injection he with _ he; injection he with he
              exact hr
            have hblk : ∀ g, A6 = some ⟨g, 0, none⟩ → nb + 1 ≤ g ∧ g < w6.heap.size ∧ ∀ u ∈ vals.eraseIdx 0, pkB u ≠ some g := by
              rintro g rfl
              exact ⟨(HP6.out.block g rfl).1, (HP6.out.block g rfl).2, fun u hu => HA6.out u hu g rfl⟩
            have HR6 := Lib.hid hR6
            have HK6 := Lib.hid hblk
            clear hR6 hblk
            have hb7 := (Below.refl w6.heap.size w6).alloc (Nat.le_refl _) (.cells #[.int .i64 f, .int .i64 t, .slice A6 l.length c6] 33)
            refine (same_true ⟨f, t, l⟩ A A6 cp c6 _ (Kd.C_below HC.out (below_then (gb_to_below HG6.out (Nat.le_refl _) (fun k e => by have := Option.some.inj e; omega)) HG6.out.size hb7)) (Kd.C_below HC6.out hb7)).mono ?_
            rintro e w7 ⟨rfl, hB7⟩
            have bq := blk_below (blk_new w6 (.cells #[.int .i64 f, .int .i64 t, .slice A6 l.length c6] 33)) hB7
            have hB67 := below_then hb7 (by simp) hB7
            have HN7 := Lib.hid (HN6.out.below hB67)
            have HG7 := Lib.hid (gb_then HG6.out hB67)
            have HB7 := Lib.hid (blk_below HB6.out hB67)
            have HR7 := Lib.hid (Kd.R_mono (ok' := fun _ => True) (Kd.R_step HR6.out (fun k _ hl => hB67.block k hl)) (fun _ _ => trivial))
            have HQ7 := Lib.hid bq
            have hz7 := hB67.size
            clear hb7 hB7 bq hB67 q0 q1 q2 HN6 HG6 HB6 HR6
            go_wp2_with fail
            go_loopw [12] (fun v wr => ∃ (jj : Nat) (xs : List Int), jj ≤ l.length ∧ v = .int .i64 jj ∧ xs.length = l.length ∧ Kd.R (Kd.int .u8) 5 wr (nb + 1) (fun _ => True) (.slice A6 l.length c6) xs ∧
              NetOk wr nb c (vals.eraseIdx 0) (List.replicate (i + 1 - j - 1) ⟨f, t, l⟩) ∧ w.grownBy wr (some c) ∧ wr.heap[w.heap.size]? = some (.cells #[.int .i64 f, .int .i64 t, .slice A l.length cp] 33 (0, 0)) ∧
              wr.heap[w6.heap.size]? = some (.cells #[.int .i64 f, .int .i64 t, .slice A6 l.length c6] 33 (0, 0))) (fun v _ => 2000 - (intOf v).toNat)
            case atStart => exact ⟨0, l, by omega, rfl, rfl, HR7.out, HN7.out, HG7.out, HB7.out, HQ7.out⟩
            case round =>
              obtain ⟨jj, xs, hjj, rfl, hxl, hR, hN, hG, hB, hQ⟩ := hrel
              obtain ⟨p0, p1, p2, _⟩ := cells3 hQ
              by_cases hlt : jj < l.length
              · have d3 : decide ((jj : Int) < (l.length : Int)) = true := decide_eq_true (by omega)
                obtain ⟨g, y, rfl, s0, s1, s2, s3, hst⟩ := row_store hR hxl jj hlt
                obtain ⟨_, k2, k3⟩ := HK6.out g rfl
                have HR := Lib.hid hR
                have HN := Lib.hid hN
                have HG := Lib.hid hG
                have HB := Lib.hid hB
                have HQ := Lib.hid hQ
                have HST := Lib.hid hst
                have HK3 := Lib.hid k3
                clear hR hN hG hB hQ hst k3
                go_wp2_with fail
                have hs : ∀ k, k ≠ g → (wr.setCell ⟨g, jj, none⟩ (.int .u8 ((y + 1) % 256))).heap[k]? = wr.heap[k]? := fun k hk => Below.heap_setCell wr ⟨g, jj, none⟩ _ k hk
                refine ⟨⟨jj + 1, xs.set jj ((y + 1) % 256), by omega, by go_num, by simpa using hxl, HST.out _, ?_, ?_, ?_, ?_⟩, by simp [intOf]; omega⟩
                · exact HN.out.step (hs nb (by omega)) (hs c (by omega)) (fun u hu k _ hk _ => hs k (by rintro rfl; exact HK3.out u hu hk))
                · exact gb_setCell (p := ⟨g, jj, none⟩) HG.out (Or.inr (by simp only; omega)) _
                · rw [hs _ (by omega)]; exact HB.out
                · rw [hs _ (by omega)]; exact HQ.out
              · have d3 : decide ((jj : Int) < (l.length : Int)) = false := decide_eq_false (by omega)
                have HN := Lib.hid hN
                have HG := Lib.hid hG
                have HB := Lib.hid hB
                clear hR hN hG hB hQ
                go_wp2_with fail
                refine ⟨?_, ?measure⟩
                repeat apply Exists.intro
                refine ⟨?rel, rfl⟩
                case rel => exact ⟨j + 1, by omega, by go_num, ⟨_, by rw [show i + 1 - (j + 1) = i + 1 - j - 1 by omega]; exact HN.out⟩, HG.out, HB.out⟩
                case measure => simp [intOf]; omega
          · obtain rfl : j = i + 1 := by omega
            have d2 : decide (((i + 1 : Nat) : Int) ≤ (i : Int)) = false := decide_eq_false (by omega)
            go_wp2_with fail
            have hn5 := HN5.out
            rw [Nat.sub_self] at hn5
            refine (takeN nb c _ _ 0 _ hn5 (by simp)).mono ?_
            rintro e w6 ⟨rfl, _, g6⟩
            have HG6 := Lib.hid (gb_trans HG5.out g6)
            clear g6 HN5 HG5 HB5 hn5
            go_wp2_with fail
            go_ret
            exact ⟨rfl, gb_to_below (gb_alloc HG6.out _) (Nat.le_refl _) (fun k e => by have := Option.some.inj e; omega)⟩
end Go.Proofs.Ytjkgkkopfpkdfaa
