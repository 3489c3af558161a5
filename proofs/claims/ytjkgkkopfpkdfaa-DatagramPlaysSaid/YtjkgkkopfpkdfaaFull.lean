import Derived.Test.YtjkgkkopfpkdfaaHead
set_option linter.unusedVariables false
set_option linter.unusedSimpArgs false
namespace Go.Proofs.Ytjkgkkopfpkdfaa
open Go.RowKit Go.Conc Go.Proofs.YtjkgkkopfpkdfaaW.PrintWords Go.Proofs.YtjkgkkopfpkdfaaW.PrintLast

set_option maxRecDepth 100000 in
set_option maxHeartbeats 2000000 in
theorem full_true (f t : Int) (A : Option Addr) (cp : Nat) (l : List Int) (a : Int) (w : World) (h : Kd.C (Kd.int .u8) w A l.length l) (hc : l.length ≤ cp) (hl : l.length ≤ 140737488351232)
    (ha0 : 0 ≤ a) (ha1 : a ≤ 255) :
    Calls Try.prog 5 #[.agg #[.int .i64 f, .int .i64 t, .slice A l.length cp], .int .u8 a] w fun e w' => e = .returned (.bool true) ∧ Below w.heap.size w w' := by
  obtain ⟨m, rfl⟩ := Int.eq_ofNat_of_zero_le ha0
  have HC := Lib.hid h
  clear h
  go_enter Try.func5, Try.ntmps5
  go_wp2_with fail
  refine (head_true _).mono ?_
  rintro e w1 ⟨rfl, hB⟩
  have b1 := blk_below (blk_new w (.cells #[.int .i64 f, .int .i64 t, .slice A l.length cp] 33)) hB
  have HB1 := Lib.hid (below_then ((Below.refl _ _).alloc (Nat.le_refl _) _) (by simp) hB)
  clear hB
  go_wp2_with fail
  refine (newR w1).mono ?_
  rintro e w2 ⟨nb, c, rfl, n2, hcc, hB⟩
  have b2 := blk_below b1 hB
  obtain ⟨q0, q1, q2, _⟩ := cells3 b2
  have HB2 := Lib.hid (below_then HB1.out HB1.out.size hB)
  have hsz : w.heap.size + 1 ≤ c := by have := blk_lt b1; omega
  have HN2 := Lib.hid n2
  have HBX := Lib.hid b2
  clear hB n2 b1 b2 HB1
  by_cases hbig : 100 < l.length
  · have d1 : decide ((100 : Int) < (l.length : Int)) = true := decide_eq_true (by omega)
    go_wp2_with fail
    go_ret
    exact ⟨rfl, HB2.out⟩
  · have d1 : decide ((100 : Int) < (l.length : Int)) = false := decide_eq_false (by omega)
    go_wp2_with fail
    have hcn := HN2.out.lt
    go_loopw [7] (fun v wr => ∃ k : Nat, k ≤ 256 ∧ v = .int .i64 k ∧ (∃ vals, NetOk wr nb c vals (List.replicate k ⟨f, t, l⟩)) ∧ w.grownBy wr (some c) ∧ wr.heap[w.heap.size]? = some (.cells #[.int .i64 f, .int .i64 t, .slice A l.length cp] 33 (0, 0))) (fun v _ => 256 - (intOf v).toNat)
    case atStart => exact ⟨0, by omega, rfl, ⟨_, HN2.out⟩, gb_below HB2.out _, HBX.out⟩
    case round =>
      obtain ⟨k, hk, rfl, ⟨vals, hn⟩, hg, hb⟩ := hrel
      obtain ⟨q0, q1, q2, _⟩ := cells3 hb
      have hbel := gb_to_below hg (Nat.le_refl _) (fun k e => by have := Option.some.inj e; omega)
      have hC := Kd.C_below HC.out hbel
      by_cases hlt : k < 256
      · have d2 : decide ((k : Int) < 256) = true := decide_eq_true (by omega)
        go_wp2_with fail
        refine (postR f t A cp l nb c vals _ _ hn hC hc hl (by simp; omega)).mono ?_
        rintro e w3 ⟨v, rfl, n3, g3⟩
        have hb3 := gb_blk g3 hb (fun e => by have := Option.some.inj e; omega)
        have HN3 := Lib.hid n3
        have HG3 := Lib.hid (gb_trans hg g3)
        have HB3 := Lib.hid hb3
        clear n3 g3 hb3 hn hg hb hbel hC q0 q1 q2
        go_wp2_with fail
        go_roundw
        case rel => exact ⟨k + 1, by omega, by go_num, ⟨_, by rw [List.replicate_succ']; exact HN3.out⟩, HG3.out, HB3.out⟩
        case measure => simp [intOf]; omega
      · obtain rfl : k = 256 := by omega
        have HN3 := Lib.hid hn
        have HG3 := Lib.hid hg
        have HB3 := Lib.hid hb
        have HC3 := Lib.hid hC
        clear hn hg hb hC
        go_wp2_with fail
        refine (postF f t A cp l nb c vals _ _ HN3.out HC3.out hc hl (by simp)).mono ?_
        rintro e w4 ⟨rfl, n4, g4⟩
        have HN4 := Lib.hid n4
        have HG4 := Lib.hid (gb_trans HG3.out g4)
        have HB4 := Lib.hid (gb_blk g4 HB3.out (fun e => by have := Option.some.inj e; omega))
        clear n4 g4 HN3 HG3 HB3 HC3
        go_wp2_with fail
        refine (doubleF nb c _ _ m _ HN4.out (by simp) (by simp)).mono ?_
        rintro e w5 ⟨rfl, n5, g5⟩
        have HN5 := Lib.hid n5
        have HG5 := Lib.hid (gb_trans HG4.out g5)
        have HB5 := Lib.hid (gb_blk g5 HB4.out (fun e => by have := Option.some.inj e; omega))
        clear n5 g5 HN4 HG4 HB4
        go_wp2_with fail
        refine (takeR nb c _ _ m ⟨f, t, l⟩ _ HN5.out (by simp) (by rw [List.getElem?_replicate, if_pos (by omega)])).mono ?_
        rintro e w6 ⟨A6, c6, rfl, n6, _, _, _, _, g6⟩
        rw [List.eraseIdx_replicate, if_pos (by omega)] at n6
        have HN6 := Lib.hid n6
        have HG6 := Lib.hid (gb_trans HG5.out g6)
        have HB6 := Lib.hid (gb_blk g6 HB5.out (fun e => by have := Option.some.inj e; omega))
        clear n6 g6 HN5 HG5 HB5
        go_wp2_with fail
        refine (doubleR nb c _ _ 0 ⟨f, t, l⟩ _ (HN6.out.below ((Below.refl _ _).alloc (Nat.le_refl _) _)) (by simp) (by simp)).mono ?_
        rintro e w7 ⟨v7, rfl, n7, g7⟩
        have HN7 := Lib.hid n7
        have HG7 := Lib.hid (gb_trans (gb_alloc HG6.out _) g7)
        have hb7 := gb_blk g7 (blk_alloc HB6.out _) (fun e => by have := Option.some.inj e; omega)
        obtain ⟨p0, p1, p2, _⟩ := cells3 hb7
        have hC7 := Kd.C_below HC.out (gb_to_below HG7.out (Nat.le_refl _) (fun k e => by have := Option.some.inj e; omega))
        have HC7 := Lib.hid hC7
        clear n7 g7 HN6 HG6 HB6 hb7 hC7
        go_wp2_with fail
        refine (postF f t A cp l nb c _ _ _ HN7.out HC7.out hc hl (by simp)).mono ?_
        rintro e w8 ⟨rfl, n8, g8⟩
        have HN8 := Lib.hid n8
        have HG8 := Lib.hid (gb_trans HG7.out g8)
        clear n8 g8 HN7 HG7 HC7
        go_wp2_with fail
        refine (manyR nb c _ _ _ HN8.out).mono ?_
        rintro e w9 ⟨rfl, rfl⟩
        go_wp2_with fail
        go_ret
        exact ⟨rfl, gb_to_below HG8.out (Nat.le_refl _) (fun k e => by have := Option.some.inj e; omega)⟩
end Go.Proofs.Ytjkgkkopfpkdfaa
