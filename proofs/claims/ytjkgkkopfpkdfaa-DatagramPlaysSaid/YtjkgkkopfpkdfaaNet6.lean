import Derived.Test.YtjkgkkopfpkdfaaNet5
set_option linter.unusedVariables false
set_option linter.unusedSimpArgs false
namespace Go.Proofs.Ytjkgkkopfpkdfaa
open Go.RowKit Go.Conc Go.Proofs.YtjkgkkopfpkdfaaW.PrintWords Go.Proofs.YtjkgkkopfpkdfaaW.PrintLast

/-- An element of a row of packets. -/
theorem at_Pkt {w : World} {A : Option Addr} {n : Nat} {xs : List Pkt} (h : Kd.C kPkt w A n xs) (i : Nat) (p : Pkt) (hp : xs[i]? = some p) :
    ∃ ad A2 c2, A = some ad ∧ w.cell? (ad.add (i * 3)) = some (.int .i64 p.f) ∧ w.cell? ⟨(ad.add (i * 3)).block, (ad.add (i * 3)).off + 1, none⟩ = some (.int .i64 p.t) ∧
      w.cell? ⟨(ad.add (i * 3)).block, (ad.add (i * 3)).off + 2, none⟩ = some (.slice A2 p.d.length c2) ∧ p.d.length ≤ c2 ∧ Kd.C (Kd.int .u8) w A2 p.d.length p.d := by
  have hi := (List.getElem?_eq_some_iff.1 hp).1
  obtain ⟨ad, e, hc⟩ := h.2.2 (by have := h.1; omega)
  obtain ⟨c, _, hK, hcell⟩ := hc i p hp
  obtain ⟨_, _, rfl, rfl, ⟨_, _, rfl, rfl, ⟨A2, c2, rfl, l2, g2⟩⟩⟩ := hK
  have hcell' : ∀ j u, [Value.int .i64 p.f, .int .i64 p.t, .slice A2 p.d.length c2][j]? = some u → w.cell? (ad.add (i * 3 + j)) = some u := hcell
  exact ⟨ad, A2, c2, e, by simpa using hcell' 0 _ rfl, by rw [← add_field _ _ 1 (by omega)]; exact hcell' 1 _ rfl, by rw [← add_field _ _ 2 (by omega)]; exact hcell' 2 _ rfl, l2, g2⟩

set_option maxHeartbeats 1000000 in
theorem double_out (nb c : Nat) (vals : List Value) (n : Int) (w : World) (hn : NetAt w nb c vals) (hout : ¬ (0 ≤ n ∧ n < vals.length)) :
    Calls Try.prog 13 #[.pointer (some ⟨nb, 0, none⟩), .int .i64 n] w fun e w' =>
      e = .returned (.bool false) ∧ Below w.heap.size w w' := by
  have HN := Lib.hid hn
  have HD := Lib.hid (show decide (0 ≤ n ∧ n < (vals.length : Int)) = false from decide_eq_false hout)
  clear hn hout
  go_enter Try.func13, Try.ntmps13
  go_wp2_with fail
  refine (there_any n nb c vals _ HN.out).mono ?_
  rintro e w1 ⟨rfl, rfl⟩
  rw [HD.out]
  go_wp2_with fail
  go_ret
  exact ⟨rfl, Below.refl _ _⟩

set_option maxHeartbeats 1000000 in
theorem double_in (nb c : Nat) (vals : List Value) (L : List Pkt) (n : Nat) (p : Pkt) (w : World) (hn : NetAt w nb c vals) (hcn : c < nb) (hp : PkL w (nb + 1) vals L) (hl : L.length ≤ 256) (hs : ∀ p ∈ L, p.d.length ≤ 140737488351232) (hpn : L[n]? = some p) :
    Calls Try.prog 13 #[.pointer (some ⟨nb, 0, none⟩), .int .i64 n] w fun e w' =>
      (L.length < 256 → ∃ v, e = .returned (.bool true) ∧ NetAt w' nb c (vals ++ [v]) ∧ PkAt w' w.heap.size v p ∧ w.grownBy w' (some c)) ∧
      (¬ L.length < 256 → e = .returned (.bool false) ∧ NetAt w' nb c vals ∧ w.grownBy w' (some c)) := by
  have hnl : n < L.length := (List.getElem?_eq_some_iff.1 hpn).1
  have HN := Lib.hid hn
  have HP := Lib.hid hp
  have HL := Lib.hid hpn
  have HS := Lib.hid hs
  have HD := Lib.hid (show decide (0 ≤ (n : Int) ∧ (n : Int) < (vals.length : Int)) = true by rw [hp.len]; simpa using hnl)
  clear hn hp hpn hs
  go_enter Try.func13, Try.ntmps13
  go_wp2_with fail
  refine (there_any n nb c vals _ HN.out).mono ?_
  rintro e w1 ⟨rfl, rfl⟩
  rw [HD.out]
  go_wp2_with fail
  refine (all_any nb c vals L _ HN.out hcn HP.out hl HS.out).mono ?_
  rintro e w1 ⟨v, rfl, r1, n1, g1⟩
  obtain ⟨A, c1, rfl, hlc, hr⟩ := Kd.R_reads r1
  obtain ⟨ad, A2, c2, rfl, p0, p1, p2, l2, g2⟩ := at_Pkt hr n p HL.out
  have HN1 := Lib.hid n1
  have HG1 := Lib.hid g1
  have HG2 := Lib.hid g2
  clear r1 n1 g1 hr g2
  have d1 : (0 : Int) ≤ (n : Int) := by omega
  have d2 : (n : Int) < (L.length : Int) := by omega
  go_wp2_with fail
  by_cases h256 : L.length < 256
  · refine (post_room p.f p.t A2 c2 p.d nb c vals _ HN1.out HG2.out l2 (HS.out p (List.mem_of_getElem? HL.out)) (by rw [HP.out.len]; exact h256)).mono ?_
    rintro e w2 ⟨v, rfl, n2, r2, g2⟩
    have HN2 := Lib.hid n2
    have HR2 := Lib.hid r2
    have HG3 := Lib.hid g2
    clear n2 r2 g2
    go_wp2_with fail
    go_ret
    exact ⟨fun _ => ⟨_, rfl, HN2.out, ⟨v, rfl, Kd.R_lower HR2.out HG1.out.size⟩, gb_trans HG1.out HG3.out⟩, fun h => absurd h256 h⟩
  · refine (post_full p.f p.t A2 c2 p.d nb c vals _ HN1.out HG2.out l2 (HS.out p (List.mem_of_getElem? HL.out)) (by rw [HP.out.len]; omega)).mono ?_
    rintro e w2 ⟨rfl, b2⟩
    have HB2 := Lib.hid b2
    clear b2
    go_wp2_with fail
    go_ret
    exact ⟨fun h => absurd h h256, fun _ => ⟨rfl, HN1.out.below HB2.out, gb_then HG1.out HB2.out⟩⟩
end Go.Proofs.Ytjkgkkopfpkdfaa
