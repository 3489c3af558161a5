/- Chapter 01: DiskRenames, its walk. -/
import Derived.Test.YtbfpmlblnfablaaLaws01
set_option linter.unusedVariables false
set_option linter.unusedSimpArgs false
namespace Go.Proofs.Ytbfpmlblnfablaa
open Go.RowKit Go.Proofs.YtbfpmlblnfablaaW.PrintWords Go.Proofs.YtbfpmlblnfablaaW.PrintLast Go.Proofs.YtbfpmlblnfablaaW.PrintMore

set_option maxRecDepth 100000 in
set_option maxHeartbeats 4000000 in
theorem renames_law (w : World) (a : List Int) (A0 : Option Addr) (n0 c0 : Nat) (h0 : kT.K w a [.slice A0 n0 c0]) (g0 : goodB a) (b : List Int) (A1 : Option Addr) (n1 c1 : Nat) (h1 : kT.K w b [.slice A1 n1 c1]) (g1 : goodB b)
    (c : List Int) (A2 : Option Addr) (n2 c2 : Nat) (h2 : kT.K w c [.slice A2 n2 c2]) (g2 : goodB c) (sy : Bool) :
    Calls Try.prog 3 #[.slice A0 n0 c0, .slice A1 n1 c1, .slice A2 n2 c2, .bool sy] w fun e w' => e = .returned (.bool true) ∧ Below w.heap.size w w' := by
  obtain ⟨e0, l0, C0⟩ := bytes_open h0
  obtain ⟨e1, l1, C1⟩ := bytes_open h1
  obtain ⟨e2, l2, C2⟩ := bytes_open h2
  have HC := Lib.hid (And.intro C0 (And.intro C1 C2))
  have HN := Lib.hid (And.intro e0 (And.intro e1 e2))
  have hb0 : n0 ≤ 140737488351232 := by have := g0.1; omega
  have hb1 : n1 ≤ 140737488351232 := by have := g1.1; omega
  have hb2 : n2 ≤ 140737488351232 := by have := g2.1; omega
  clear h0 h1 h2 g0 g1 g2 C0 C1 C2 e0 e1 e2
  obtain ⟨S2, hS2⟩ : ∃ S, S = strOfNums c := ⟨_, rfl⟩
  obtain ⟨S0, hS0⟩ : ∃ S, S = strOfNums a := ⟨_, rfl⟩
  have HS := Lib.hid (And.intro hS0 hS2)
  clear hS0 hS2
  go_enter Try.func3, Try.ntmps3
  go_wp2_with fail
  refine (head_any w).mono ?_
  rintro r w1 ⟨rfl, hB1⟩
  have HB1 := Lib.hid hB1
  clear hB1
  go_wp2_with fail
  refine (new_F 1048576 w w1 HB1.out (fun _ => False) (fun _ h => h.elim)).mono ?_
  rintro r w2 ⟨g, rfl, hD2, _⟩
  have HD2 := Lib.hid (show DiskF w w2 (fun _ => False) g rn0 from hD2)
  clear hD2 HB1
  by_cases k0 : 1000 < n0
  · have k0' : (1000 : Int) < (n0 : Int) := by omega
    go_wp2_with fail
    go_ret
    exact ⟨rfl, HD2.out.hB⟩
  by_cases k1 : 1000 < n1
  · have k0' : ¬ (1000 : Int) < (n0 : Int) := by omega
    have k1' : (1000 : Int) < (n1 : Int) := by omega
    go_wp2_with fail
    go_ret
    exact ⟨rfl, HD2.out.hB⟩
  by_cases k2 : 1000 < n2
  · have k0' : ¬ (1000 : Int) < (n0 : Int) := by omega
    have k1' : ¬ (1000 : Int) < (n1 : Int) := by omega
    have k2' : (1000 : Int) < (n2 : Int) := by omega
    go_wp2_with fail
    go_ret
    exact ⟨rfl, HD2.out.hB⟩
  have k0' : ¬ (1000 : Int) < (n0 : Int) := by omega
  have k1' : ¬ (1000 : Int) < (n1 : Int) := by omega
  have k2' : ¬ (1000 : Int) < (n2 : Int) := by omega
  have HI := Lib.hid (rn6_I (a := a) (b := b) (c := c) sy (by rw [← HN.out.1]; omega) (by rw [← HN.out.2.1]; omega) (by rw [← HN.out.2.2]; omega))
  have HL := Lib.hid (And.intro (show a.length ≤ 1000 by rw [← HN.out.1]; omega) (And.intro (show b.length ≤ 1000 by rw [← HN.out.2.1]; omega) (show c.length ≤ 1000 by rw [← HN.out.2.2]; omega)))
  cases sy with
  | true =>
    go_wp2_with fail
    refine (write_F HD2.out (HI.out.1.small (by omega)) s1 (by decide) A0 n0 c0 a HN.out.1.symm (Kd.C_below HC.out.1 HD2.out.hB) l0 hb0).mono ?_
    rintro r w3 ⟨rfl, hD, _⟩
    have HD3 := Lib.hid (show DiskF w w3 (fun _ => False) g (rn1 a) from (by have h := hD; rw [rn1_is HL.out.1] at h; exact h))
    clear hD HD2
    go_wp2_with fail
    refine (write_F HD3.out (HI.out.2.1.small (by omega)) s2 (by decide) A1 n1 c1 b HN.out.2.1.symm (Kd.C_below HC.out.2.1 HD3.out.hB) l1 hb1).mono ?_
    rintro r w4 ⟨rfl, hD, _⟩
    have HD4 := Lib.hid (show DiskF w w4 (fun _ => False) g (rn2 a b) from (by have h := hD; rw [rn2_is HL.out.1 HL.out.2.1] at h; exact h))
    clear hD HD3
    go_wp2_with fail
    refine (sync_F HD4.out (HI.out.2.2.1.small (by omega))).mono ?_
    rintro r w5 ⟨rfl, hD, _⟩
    have HD5 := Lib.hid (show DiskF w w5 (fun _ => False) g (rn3 a b) from (by have h := hD; rw [rn3_is] at h; exact h))
    clear hD HD4
    go_wp2_with fail
    refine (write_F HD5.out (HI.out.2.2.2.1.small (by omega)) s1 (by decide) A2 n2 c2 c HN.out.2.2.symm (Kd.C_below HC.out.2.2 HD5.out.hB) l2 hb2).mono ?_
    rintro r w6 ⟨rfl, hD, _⟩
    have HD6 := Lib.hid (show DiskF w w6 (fun _ => False) g (rn4 a b c) from (by have h := hD; rw [rn4_is HL.out.1 HL.out.2.1 HL.out.2.2] at h; exact h))
    clear hD HD5
    go_wp2_with fail
    refine (sync_F HD6.out (HI.out.2.2.2.2.1.small (by omega))).mono ?_
    rintro r w7 ⟨rfl, hD, _⟩
    have HD7 := Lib.hid (show DiskF w w7 (fun _ => False) g (rn5 a b c true) from (by have h := hD; rw [show syncD (rn4 a b c) = rn5 a b c true from (rn5_is true).symm] at h; exact h))
    clear hD HD6
    go_wp2_with fail
    refine (rename_F HD7.out (HI.out.2.2.2.2.2.1.small (by omega)) s1 s2 (by decide) (by decide)).mono ?_
    rw [(rn6_is true).1]
    rintro r w8 ⟨rfl, hD, _⟩
    have HD8 := Lib.hid (show DiskF w w8 (fun _ => False) g (rn6 a b c true) from (by have h := hD; rw [(rn6_is true).2] at h; exact h))
    clear hD HD7
    go_wp2_with fail
    refine (read_F HD8.out (HI.out.2.2.2.2.2.2.small (by omega)) s2 (by decide)).mono ?_
    rw [(rn6_two true).1, (rn6_two true).2]
    rintro r w9 ⟨v, rfl, hR, hB9⟩
    obtain ⟨A9, c9, rfl, _, hC9⟩ := Kd.R_reads hR
    have HD9 := Lib.hid (HD8.out.below hB9)
    have HC9 := Lib.hid hC9
    clear hR hB9 hC9 HD8
    go_wp2_with fail
    refine (read_F HD9.out (HI.out.2.2.2.2.2.2.small (by omega)) s1 (by decide)).mono ?_
    rw [(rn6_one true).1, (rn6_one true).2]
    rintro r w10 ⟨v, rfl, hR, hB10⟩
    obtain ⟨A10, c10, rfl⟩ := Kd.R_slice hR
    have HD10 := Lib.hid (HD9.out.below hB10)
    have hst : (convert 22 9 (.slice A9 c.length c9)).run Try.prog w10 = .ok (.string S2) w10 := by rw [HS.out.2]; exact Kd.C_string Try.underlying22 Try.underlying5 Try.underlying9 (Kd.C_below HC9.out hB10)
    have hst2 : (convert 22 9 (.slice A2 n2 c2)).run Try.prog w10 = .ok (.string S2) w10 := by rw [HS.out.2]; exact Kd.C_string Try.underlying22 Try.underlying5 Try.underlying9 (Kd.C_below HC.out.2.2 HD10.out.hB)
    clear hR hB10 HD9
    have hlc : c.length = n2 := HN.out.2.2.symm
    clear hlc
    go_wp2_with fail
    have hw10 : w10.heap.size = w10.heap.size := rfl
    refine (crash_F (HD10.out.below ((Below.refl _ _).alloc (Nat.le_refl _) _)) (HI.out.2.2.2.2.2.2.small (by omega)) _ 2 2 [true, true] rfl (lit_Cb w10 [true, true] _ _ 2 rfl (by omega))).mono ?_
    rintro r w11 ⟨rfl, hD, _⟩
    have HD11 := Lib.hid hD
    clear hD HD10 hst hst2 HC9
    go_wp2_with fail
    refine (read_F HD11.out ((HI.out.2.2.2.2.2.2.crash [true, true]).small (by omega)) s2 (by decide)).mono ?_
    rw [(rn7_two true).1, (rn7_two true).2]
    simp only [if_true, Bool.false_eq_true, if_false]
    rintro r w12 ⟨v, rfl, hR, hB12⟩
    obtain ⟨A12, c12, rfl, _, hC12⟩ := Kd.R_reads hR
    have HD12 := Lib.hid (HD11.out.below hB12)
    have HC12 := Lib.hid hC12
    clear hR hB12 hC12 HD11
    go_wp2_with fail
    refine (read_F HD12.out ((HI.out.2.2.2.2.2.2.crash [true, true]).small (by omega)) s1 (by decide)).mono ?_
    rw [(rn7_one true).1, (rn7_one true).2]
    rintro r w13 ⟨v, rfl, hR, hB13⟩
    obtain ⟨A13, c13, rfl⟩ := Kd.R_slice hR
    have HD13 := Lib.hid (HD12.out.below hB13)
    have hst : (convert 22 9 (.slice A12 c.length c12)).run Try.prog w13 = .ok (.string S2) w13 := by rw [HS.out.2]; exact Kd.C_string Try.underlying22 Try.underlying5 Try.underlying9 (Kd.C_below HC12.out hB13)
    have hst2 : (convert 22 9 (.slice A2 n2 c2)).run Try.prog w13 = .ok (.string S2) w13 := by rw [HS.out.2]; exact Kd.C_string Try.underlying22 Try.underlying5 Try.underlying9 (Kd.C_below HC.out.2.2 HD13.out.hB)
    clear hR hB13 HD12
    go_wp2_with fail
    go_ret
    exact ⟨by simp, HD13.out.hB⟩
  | false =>
    go_wp2_with fail
    refine (write_F HD2.out (HI.out.1.small (by omega)) s1 (by decide) A0 n0 c0 a HN.out.1.symm (Kd.C_below HC.out.1 HD2.out.hB) l0 hb0).mono ?_
    rintro r w3 ⟨rfl, hD, _⟩
    have HD3 := Lib.hid (show DiskF w w3 (fun _ => False) g (rn1 a) from (by have h := hD; rw [rn1_is HL.out.1] at h; exact h))
    clear hD HD2
    go_wp2_with fail
    refine (write_F HD3.out (HI.out.2.1.small (by omega)) s2 (by decide) A1 n1 c1 b HN.out.2.1.symm (Kd.C_below HC.out.2.1 HD3.out.hB) l1 hb1).mono ?_
    rintro r w4 ⟨rfl, hD, _⟩
    have HD4 := Lib.hid (show DiskF w w4 (fun _ => False) g (rn2 a b) from (by have h := hD; rw [rn2_is HL.out.1 HL.out.2.1] at h; exact h))
    clear hD HD3
    go_wp2_with fail
    refine (sync_F HD4.out (HI.out.2.2.1.small (by omega))).mono ?_
    rintro r w5 ⟨rfl, hD, _⟩
    have HD5 := Lib.hid (show DiskF w w5 (fun _ => False) g (rn3 a b) from (by have h := hD; rw [rn3_is] at h; exact h))
    clear hD HD4
    go_wp2_with fail
    refine (write_F HD5.out (HI.out.2.2.2.1.small (by omega)) s1 (by decide) A2 n2 c2 c HN.out.2.2.symm (Kd.C_below HC.out.2.2 HD5.out.hB) l2 hb2).mono ?_
    rintro r w6 ⟨rfl, hD, _⟩
    have HD6 := Lib.hid (show DiskF w w6 (fun _ => False) g (rn4 a b c) from (by have h := hD; rw [rn4_is HL.out.1 HL.out.2.1 HL.out.2.2] at h; exact h))
    clear hD HD5
    have HD7 := Lib.hid (show DiskF w w6 (fun _ => False) g (rn5 a b c false) from HD6.out)
    clear HD6
    go_wp2_with fail
    refine (rename_F HD7.out (HI.out.2.2.2.2.2.1.small (by omega)) s1 s2 (by decide) (by decide)).mono ?_
    rw [(rn6_is false).1]
    rintro r w8 ⟨rfl, hD, _⟩
    have HD8 := Lib.hid (show DiskF w w8 (fun _ => False) g (rn6 a b c false) from (by have h := hD; rw [(rn6_is false).2] at h; exact h))
    clear hD HD7
    go_wp2_with fail
    refine (read_F HD8.out (HI.out.2.2.2.2.2.2.small (by omega)) s2 (by decide)).mono ?_
    rw [(rn6_two false).1, (rn6_two false).2]
    rintro r w9 ⟨v, rfl, hR, hB9⟩
    obtain ⟨A9, c9, rfl, _, hC9⟩ := Kd.R_reads hR
    have HD9 := Lib.hid (HD8.out.below hB9)
    have HC9 := Lib.hid hC9
    clear hR hB9 hC9 HD8
    go_wp2_with fail
    refine (read_F HD9.out (HI.out.2.2.2.2.2.2.small (by omega)) s1 (by decide)).mono ?_
    rw [(rn6_one false).1, (rn6_one false).2]
    rintro r w10 ⟨v, rfl, hR, hB10⟩
    obtain ⟨A10, c10, rfl⟩ := Kd.R_slice hR
    have HD10 := Lib.hid (HD9.out.below hB10)
    have hst : (convert 22 9 (.slice A9 c.length c9)).run Try.prog w10 = .ok (.string S2) w10 := by rw [HS.out.2]; exact Kd.C_string Try.underlying22 Try.underlying5 Try.underlying9 (Kd.C_below HC9.out hB10)
    have hst2 : (convert 22 9 (.slice A2 n2 c2)).run Try.prog w10 = .ok (.string S2) w10 := by rw [HS.out.2]; exact Kd.C_string Try.underlying22 Try.underlying5 Try.underlying9 (Kd.C_below HC.out.2.2 HD10.out.hB)
    clear hR hB10 HD9
    have hlc : c.length = n2 := HN.out.2.2.symm
    clear hlc
    go_wp2_with fail
    have hw10 : w10.heap.size = w10.heap.size := rfl
    refine (crash_F (HD10.out.below ((Below.refl _ _).alloc (Nat.le_refl _) _)) (HI.out.2.2.2.2.2.2.small (by omega)) _ 2 2 [false, true] rfl (lit_Cb w10 [false, true] _ _ 2 rfl (by omega))).mono ?_
    rintro r w11 ⟨rfl, hD, _⟩
    have HD11 := Lib.hid hD
    clear hD HD10 hst hst2 HC9
    go_wp2_with fail
    refine (read_F HD11.out ((HI.out.2.2.2.2.2.2.crash [false, true]).small (by omega)) s2 (by decide)).mono ?_
    rw [(rn7_two false).1, (rn7_two false).2]
    simp only [if_true, Bool.false_eq_true, if_false]
    rintro r w12 ⟨v, rfl, hR, hB12⟩
    obtain ⟨A12, c12, rfl, _, hC12⟩ := Kd.R_reads hR
    have HD12 := Lib.hid (HD11.out.below hB12)
    have HC12 := Lib.hid hC12
    clear hR hB12 hC12 HD11
    go_wp2_with fail
    refine (read_F HD12.out ((HI.out.2.2.2.2.2.2.crash [false, true]).small (by omega)) s1 (by decide)).mono ?_
    rw [(rn7_one false).1, (rn7_one false).2]
    rintro r w13 ⟨v, rfl, hR, hB13⟩
    obtain ⟨A13, c13, rfl⟩ := Kd.R_slice hR
    have HD13 := Lib.hid (HD12.out.below hB13)
    have hst : (convert 22 9 (.slice A12 a.length c12)).run Try.prog w13 = .ok (.string S0) w13 := by rw [HS.out.1]; exact Kd.C_string Try.underlying22 Try.underlying5 Try.underlying9 (Kd.C_below HC12.out hB13)
    have hst2 : (convert 22 9 (.slice A0 n0 c0)).run Try.prog w13 = .ok (.string S0) w13 := by rw [HS.out.1]; exact Kd.C_string Try.underlying22 Try.underlying5 Try.underlying9 (Kd.C_below HC.out.1 HD13.out.hB)
    clear hR hB13 HD12
    go_wp2_with fail
    go_ret
    exact ⟨by simp, HD13.out.hB⟩
end Go.Proofs.Ytbfpmlblnfablaa
