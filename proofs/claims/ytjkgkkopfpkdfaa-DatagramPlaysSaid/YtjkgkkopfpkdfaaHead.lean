import Derived.Test.YtjkgkkopfpkdfaaNet7
import Derived.Lib.SlBytesConst
import Derived.Lib.Strings
set_option linter.unusedVariables false
set_option linter.unusedSimpArgs false
namespace Go.Proofs.Ytjkgkkopfpkdfaa
open Go.RowKit Go.Conc Go.Proofs.YtjkgkkopfpkdfaaW.PrintWords Go.Proofs.YtjkgkkopfpkdfaaW.PrintLast

def pA : Pkt := ⟨1, 2, [97]⟩
def pB3 : Pkt := ⟨0, 3, []⟩

theorem postN (f t : Int) (A : Option Addr) (n cp : Nat) (l : List Int) (nb c : Nat) (vals : List Value) (L : List Pkt) (w : World) (hn : NetOk w nb c vals L) (hln : l.length = n)
    (h : Kd.C (Kd.int .u8) w A l.length l) (hc : l.length ≤ cp) (hl : l.length ≤ 140737488351232) (hv : L.length < 256) :
    Calls Try.prog 15 #[.pointer (some ⟨nb, 0, none⟩), .agg #[.int .i64 f, .int .i64 t, .slice A n cp]] w fun e w' =>
      ∃ v, e = .returned (.bool true) ∧ NetOk w' nb c (vals ++ [v]) (L ++ [⟨f, t, l⟩]) ∧ w.grownBy w' (some c) := by
  subst hln
  exact postR f t A cp l nb c vals L w hn h hc hl hv

/-- A literal of one byte. -/
theorem lit1 (w : World) (x : Int) (m : Nat × Nat) : Kd.C (Kd.int .u8) (w.alloc (.cells #[.int .u8 x] 5 m)) (some ⟨w.heap.size, 0, none⟩) [x].length [x] := by
  refine Kd.C_of_reads (enc := Value.int .u8) (d := (0 : Int)) (h1 := fun _ => rfl) ⟨rfl, by simp, fun _ => ⟨_, rfl, fun j hj => ?_⟩⟩
  obtain rfl : j = 0 := by simpa using hj
  have := cell_of_row (w.alloc (.cells #[.int .u8 x] 5 m)) w.heap.size 0 #[.int .u8 x] 5 m (blk_new w _)
  rw [add_plain]
  simpa using this
theorem nil_C (w : World) : Kd.C (Kd.int .u8) w none ([] : List Int).length [] :=
  Kd.C_of_reads (enc := Value.int .u8) (d := (0 : Int)) (h1 := fun _ => rfl) ⟨rfl, by simp, fun h => by simp at h⟩

set_option maxRecDepth 100000 in
set_option maxHeartbeats 2000000 in
theorem head_true (w : World) : Calls Try.prog 7 #[] w fun e w' => e = .returned (.bool true) ∧ Below w.heap.size w w' := by
  have kc := fun (w : World) (C : Array Value) (n c : Nat) => Lib.run_convert_bytes_const (P := Try.prog) w 31 5 C n c Try.underlying31 Try.underlying5
  go_enter Try.func7, Try.ntmps7
  go_wp2_with fail
  refine (newR w).mono ?_
  rintro e w1 ⟨nb, c, rfl, n1, hc, hB⟩
  have HN1 := Lib.hid n1
  have HB1 := Lib.hid hB
  clear n1 hB
  go_wp2_with fail
  refine (postN 1 2 _ 1 1 [97] nb c _ _ _ (HN1.out.below ((Below.refl _ _).alloc (Nat.le_refl _) _)) rfl (lit1 w1 97 _) (by simp) (by simp) (by simp)).mono ?_
  rintro e w2 ⟨v1, rfl, n2, g2⟩
  have HN2 := Lib.hid n2
  have HG2 := Lib.hid (gb_below_at (row := some c) (ob := w.heap.size) (gb_refl w _) (HB1.out) (Nat.le_refl _))
  have HG3 := Lib.hid (gb_trans HG2.out (gb_trans (gb_alloc (gb_refl w1 _) _) g2))
  clear n2 g2 HG2
  go_wp2_with fail
  refine (postN 0 3 none 0 0 [] nb c _ _ _ HN2.out rfl (nil_C _) (by simp) (by simp) (by simp)).mono ?_
  rintro e w3 ⟨v2, rfl, n3, g3⟩
  have HN3 := Lib.hid n3
  have HG4 := Lib.hid (gb_trans HG3.out g3)
  clear n3 g3 HG3 HN2
  go_wp2_with fail
  refine (doubleR nb c _ _ 0 ⟨1, 2, [97]⟩ _ HN3.out (by simp) (by simp)).mono ?_
  rintro e w4 ⟨v3, rfl, n4, g4⟩
  have HN4 := Lib.hid n4
  have HG5 := Lib.hid (gb_trans HG4.out g4)
  clear n4 g4 HG4 HN3
  go_wp2_with fail
  refine (takeR nb c _ _ 0 ⟨1, 2, [97]⟩ _ HN4.out (by simp) (by simp)).mono ?_
  rintro e w5 ⟨A5, c5, rfl, n5, k5, l5, r5, _, g5⟩
  have HN5 := Lib.hid n5
  have HG6 := Lib.hid (gb_trans HG5.out g5)
  have HK5 := Lib.hid k5
  clear n5 g5 HG5 HN4 r5 k5
  have hlt5 := HN5.out.net.lt.2
  have hnc := HN5.out.lt
  go_wp2_with fail
  refine (takeN nb c _ _ 5 _ (HN5.out.below ((Below.refl _ _).alloc (Nat.le_refl _) _)) (by simp)).mono ?_
  rintro e w6 ⟨rfl, n6, g6⟩
  have b6 := gb_blk g6 (blk_new w5 _) (fun e => by have := Option.some.inj e; omega)
  have gs6 := g6.size
  simp only [World.size_alloc] at gs6
  have HN6 := Lib.hid n6
  have HG7 := Lib.hid (gb_trans HG6.out (gb_trans (gb_alloc (gb_refl w5 _) _) g6))
  have HK6 := Lib.hid ((HK5.out.step (w' := w6) (fun k hb _ hl => ((gb_trans (gb_alloc (gb_refl w5 _) _) g6).block k hl (fun e => by have := Option.some.inj e; omega)))))
  have HB6 := Lib.hid b6
  clear n6 g6 HG6 HN5 HK5 b6
  go_wp2_with fail
  refine (allR nb c _ _ _ (HN6.out.below ((Below.refl _ _).alloc (Nat.le_refl _) _)) (by simp)).mono ?_
  rintro e w7 ⟨v7, rfl, r7, n7, g7⟩
  obtain ⟨A7, c7, rfl, l7, hr7⟩ := Kd.R_reads r7
  obtain ⟨ad, A2, c2, rfl, p0, p1, p2, _, _⟩ := at_Pkt hr7 0 ⟨0, 3, []⟩ (by simp)
  have b7 := gb_blk g7 (blk_alloc HB6.out _) (fun e => by have := Option.some.inj e; omega)
  obtain ⟨q0, q1, q2, _⟩ := cells3 b7
  obtain ⟨A', c', e0, _, hr'⟩ := (HK6.out.step (w' := w7) (fun k hb _ hl => ((gb_trans (gb_alloc (gb_refl w6 _) _) g7).block k hl (fun e => by have := Option.some.inj e; omega)))).reads
  simp only [Value.agg.injEq, Array.mk.injEq, List.cons.injEq, true_and, Value.slice.injEq, and_true] at e0
  obtain ⟨rfl, rfl⟩ := e0
  have hst : (convert 31 9 (.slice A5 1 c5)).run Try.prog w7 = .ok (.string (strOfNums [97])) w7 := Kd.C_string Try.underlying31 Try.underlying5 Try.underlying9 hr'
  have hs2 : ((strOfNums [97]).toList == ([97] : List UInt8)) = true := by rw [Lib.toList_data]; decide
  have HN7 := Lib.hid n7
  have HG8 := Lib.hid (gb_trans HG7.out (gb_trans (gb_alloc (gb_refl w6 _) _) g7))
  clear n7 g7 HG7 HN6 HK6 r7 hr7 hr' b7 HB6
  have a0 : ad.add 0 = ad := rfl
  simp only [Nat.zero_mul, a0] at p0 p1 p2
  go_wp2_with fail
  refine (manyR nb c _ _ _ HN7.out).mono ?_
  rintro e w8 ⟨rfl, rfl⟩
  go_wp2_with fail
  go_ret
  exact ⟨rfl, gb_to_below HG8.out (Nat.le_refl _) (fun k e => by have := Option.some.inj e; omega)⟩
end Go.Proofs.Ytjkgkkopfpkdfaa
