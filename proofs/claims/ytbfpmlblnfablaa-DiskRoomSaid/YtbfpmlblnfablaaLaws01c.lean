/- Chapter 01: DiskRoom. -/
import Derived.Test.YtbfpmlblnfablaaDiskS
set_option linter.unusedVariables false
set_option linter.unusedSimpArgs false
namespace Go.Proofs.Ytbfpmlblnfablaa
open Go.RowKit Go.Proofs.YtbfpmlblnfablaaW.PrintWords Go.Proofs.YtbfpmlblnfablaaW.PrintLast Go.Proofs.YtbfpmlblnfablaaW.PrintMore

abbrev sa1 : ByteArray := sOf [97]
abbrev sb1 : ByteArray := sOf [98]
abbrev zs (n : Nat) : List Int := List.replicate n 0
section
variable {d : D} {s : ByteArray} {l : List Int}
theorem write_no (ho : offD d = false) {c : Int} (h : wrE d s l.length = c) (hc : c ≠ 0) : writeE d s l = c ∧ writeD d s l = d := by
  unfold writeE writeD actE actD
  rw [ho, h]
  exact ⟨by simp, by simp [hc]⟩
theorem wrE_full (hr : rightN s = true) (hl : l.length ≤ 65536) (hn : d.now.length < 512) (hf : d.room - used d.now + oldLen d s < (l.length : Int)) : wrE d s l.length = 11 := by
  unfold wrE
  rw [if_pos hr, if_neg (by omega), if_pos (by omega)]
end
def rm1 (room a : Nat) : D := if a ≤ room then ⟨(room : Int), [(sa1, zs a)], [], [⟨0, sa1, ByteArray.empty, zs a⟩], 1, -1, false⟩ else ⟨(room : Int), [], [], [], 0, -1, false⟩
def rm0 (room : Nat) : D := ⟨(room : Int), [], [], [], 0, -1, false⟩
theorem rm0_is (room : Nat) : newD (room : Int) = rm0 room := by
  unfold newD rm0
  rw [Int.max_eq_left (by omega)]
theorem rm1_is (room a : Nat) (ha : a < 65536) : writeE (rm0 room) sa1 (zs a) = (if a ≤ room then 0 else 11) ∧ writeD (rm0 room) sa1 (zs a) = rm1 room a := by
  have h1 : used (rm0 room).now = 0 := rfl
  have h2 : oldLen (rm0 room) sa1 = 0 := by kernel_rfl
  have hl : (zs a).length = a := List.length_replicate
  unfold rm1
  by_cases h : a ≤ room
  · have hk := write_ok (d := rm0 room) (s := sa1) (l := zs a) (by kernel_rfl) (wrE_ok (by kernel_rfl) (by omega) (by show 0 < 512; omega) (by
      rw [h1, h2, hl]
      show (a : Int) ≤ (room : Int) - ((0 : Nat) : Int) + ((0 : Nat) : Int)
      omega))
    rw [if_pos h, if_pos h]
    exact ⟨hk.1, hk.2.trans (by kernel_rfl)⟩
  · have hk := write_no (d := rm0 room) (s := sa1) (l := zs a) (by kernel_rfl) (c := 11) (wrE_full (by kernel_rfl) (by omega) (by show 0 < 512; omega) (by
      rw [h1, h2, hl]
      show (room : Int) - ((0 : Nat) : Int) + ((0 : Nat) : Int) < (a : Int)
      omega)) (by decide)
    rw [if_neg h, if_neg h]
    exact hk
def rmN (room a : Nat) : Nat := if a ≤ room then a else 0
theorem rm1_used (room a : Nat) : used (rm1 room a).now = rmN room a := by
  unfold rm1 rmN
  by_cases h : a ≤ room
  · rw [if_pos h, if_pos h]
    show (zs a).length + 0 = a
    rw [List.length_replicate]
    rfl
  · rw [if_neg h, if_neg h]
    rfl
def rm2 (room a b : Nat) : D := if a ≤ room then ⟨(room : Int), [(sa1, zs a), (sb1, zs b)], [], [⟨0, sa1, ByteArray.empty, zs a⟩, ⟨0, sb1, ByteArray.empty, zs b⟩], 2, -1, false⟩ else ⟨(room : Int), [(sb1, zs b)], [], [⟨0, sb1, ByteArray.empty, zs b⟩], 1, -1, false⟩
theorem rm1_plain (room a : Nat) : offD (rm1 room a) = false ∧ (rm1 room a).room = (room : Int) ∧ (rm1 room a).now.length < 512 ∧ oldLen (rm1 room a) sb1 = 0 := by
  unfold rm1
  by_cases h : a ≤ room
  · rw [if_pos h]; exact ⟨by kernel_rfl, rfl, by show 1 < 512; omega, by kernel_rfl⟩
  · rw [if_neg h]; exact ⟨by kernel_rfl, rfl, by show 0 < 512; omega, by kernel_rfl⟩
theorem rm2_is (room a b : Nat) (hb : b < 65536) (h : rmN room a + b ≤ room) : writeE (rm1 room a) sb1 (zs b) = 0 ∧ writeD (rm1 room a) sb1 (zs b) = rm2 room a b := by
  have hl : (zs b).length = b := List.length_replicate
  obtain ⟨p1, p2, p3, p4⟩ := rm1_plain room a
  have hk := write_ok (d := rm1 room a) (s := sb1) (l := zs b) p1 (wrE_ok (by kernel_rfl) (by omega) p3 (by
    rw [rm1_used, p4, hl, p2]
    omega))
  refine ⟨hk.1, hk.2.trans ?_⟩
  unfold rm1 rm2
  by_cases h : a ≤ room
  · rw [if_pos h, if_pos h]; kernel_rfl
  · rw [if_neg h, if_neg h]; kernel_rfl
theorem rm2_no (room a b : Nat) (hb : b < 65536) (h : ¬ rmN room a + b ≤ room) : writeE (rm1 room a) sb1 (zs b) = 11 ∧ writeD (rm1 room a) sb1 (zs b) = rm1 room a := by
  have hl : (zs b).length = b := List.length_replicate
  obtain ⟨p1, p2, p3, p4⟩ := rm1_plain room a
  exact write_no p1 (wrE_full (by kernel_rfl) (by omega) p3 (by rw [rm1_used, p4, hl, p2]; omega)) (by decide)
theorem rm3_is (room a b c : Nat) (hc : c < 65536) (h : rmN room a + b ≤ room) : writeE (rm2 room a b) sb1 (zs c) = if rmN room a + c ≤ room then 0 else 11 := by
  have hl : (zs c).length = c := List.length_replicate
  have h1 : used (rm2 room a b).now = rmN room a + b := by
    unfold rm2 rmN
    by_cases h : a ≤ room
    · rw [if_pos h, if_pos h]
      show (zs a).length + ((zs b).length + 0) = a + b
      rw [List.length_replicate, List.length_replicate]
      rfl
    · rw [if_neg h, if_neg h]
      show (zs b).length + 0 = 0 + b
      rw [List.length_replicate]
      omega
  have h2 : oldLen (rm2 room a b) sb1 = b := by
    unfold rm2
    by_cases h : a ≤ room
    · rw [if_pos h]
      show (zs b).length = b
      exact List.length_replicate
    · rw [if_neg h]
      show (zs b).length = b
      exact List.length_replicate
  have p : offD (rm2 room a b) = false ∧ (rm2 room a b).room = (room : Int) ∧ (rm2 room a b).now.length < 512 := by
    unfold rm2
    by_cases h : a ≤ room
    · rw [if_pos h]; exact ⟨by kernel_rfl, rfl, by show 2 < 512; omega⟩
    · rw [if_neg h]; exact ⟨by kernel_rfl, rfl, by show 1 < 512; omega⟩
  by_cases h3 : rmN room a + c ≤ room
  · rw [if_pos h3]
    exact (write_ok p.1 (wrE_ok (by kernel_rfl) (by omega) p.2.2 (by rw [h1, h2, hl, p.2.1]; omega))).1
  · rw [if_neg h3]
    exact (write_no p.1 (wrE_full (by kernel_rfl) (by omega) p.2.2 (by rw [h1, h2, hl, p.2.1]; omega)) (by decide)).1
theorem u16_of (x : Int) (h : (Lit.int .u16 x).wf = true) : ∃ n : Nat, x = (n : Int) ∧ n < 65536 := by
  have hw : 0 ≤ x ∧ x < 65536 := by
    simp [Lit.wf, IntKind.min, IntKind.max, IntKind.bits, IntKind.signed] at h
    omega
  exact ⟨x.toNat, by omega, by omega⟩
set_option maxRecDepth 100000 in
set_option maxHeartbeats 4000000 in
theorem room_law (w : World) (ri : Int) (wr : (Lit.int .u16 ri).wf = true) (ai : Int) (wa : (Lit.int .u16 ai).wf = true) (bi : Int) (wb : (Lit.int .u16 bi).wf = true) (ci : Int) (wc : (Lit.int .u16 ci).wf = true) :
    Calls Try.prog 4 #[.int .u16 ri, .int .u16 ai, .int .u16 bi, .int .u16 ci] w fun e w' => e = .returned (.bool true) ∧ Below w.heap.size w w' := by
  obtain ⟨room, rfl, hr⟩ := u16_of ri wr
  obtain ⟨a, rfl, ha⟩ := u16_of ai wa
  obtain ⟨b, rfl, hb⟩ := u16_of bi wb
  obtain ⟨c, rfl, hc⟩ := u16_of ci wc
  clear wr wa wb wc
  have i0 : SmallI 0 (rm0 room) := by rw [← rm0_is]; exact SmallI.new _ (by omega)
  have i1 : SmallI 1 (rm1 room a) := by
    have := i0.write sa1 (zs a)
    rw [(rm1_is room a ha).2] at this
    exact this
  obtain ⟨n, hn⟩ : ∃ n, n = rmN room a := ⟨_, rfl⟩
  have E1 := (rm1_is room a ha)
  have HI := Lib.hid (And.intro i0 i1)
  have HE1 := Lib.hid E1
  have HNN := Lib.hid hn
  have hnle : n ≤ 65536 := by rw [hn]; unfold rmN; split <;> omega
  have hmka := make_run a (by omega)
  have hmkb := make_run b (by omega)
  have hmkc := make_run c (by omega)
  have ra : (a : Int) ≤ 65535 := by omega
  have rb : (b : Int) ≤ 65535 := by omega
  have rc : (c : Int) ≤ 65535 := by omega
  have rr : (room : Int) ≤ 65535 := by omega
  clear i0 i1 E1 hn
  go_enter Try.func4, Try.ntmps4
  go_wp2_with fail
  refine (head_any w).mono ?_
  rintro r w1 ⟨rfl, hB1⟩
  have HB1 := Lib.hid hB1
  clear hB1
  go_wp2_with fail
  refine (new_F (room : Int) w w1 HB1.out (fun _ => False) (fun _ h => h.elim)).mono ?_
  rintro r w2 ⟨g, rfl, hD2, _⟩
  rw [rm0_is] at hD2
  have HD2 := Lib.hid hD2
  clear hD2 HB1
  go_wp2_with fail
  by_cases ca : a ≤ room
  · refine (write_F (HD2.out.below ((Below.refl _ _).alloc (Nat.le_refl _) _)) (HI.out.1.small (by omega)) sa1 (by decide) _ a a (zs a) List.length_replicate (make_C w2 a (by omega)) (Nat.le_refl _) (by omega)).mono ?_
    rw [HE1.out.1, HE1.out.2, if_pos ca]
    rintro r w3 ⟨rfl, hD3, _⟩
    have HD3 := Lib.hid hD3
    clear hD3 HD2
    go_wp2_with fail
    refine (write_F (HD3.out.below ((Below.refl _ _).alloc (Nat.le_refl _) _)) (HI.out.2.small (by omega)) sb1 (by decide) _ b b (zs b) List.length_replicate (make_C w3 b (by omega)) (Nat.le_refl _) (by omega)).mono ?_
    have HNQ := Lib.hid (show a = rmN room a by unfold rmN; rw [if_pos ca])
    have caI : (a : Int) ≤ (room : Int) := by omega
    by_cases cb : a + b ≤ room
    · have cbI : (a : Int) + (b : Int) ≤ (room : Int) := by omega
      have hk := rm2_is room a b hb (by rw [← HNQ.out]; exact cb)
      rw [hk.1, hk.2]
      rintro r w4 ⟨rfl, hD4, _⟩
      have HD4 := Lib.hid hD4
      have i2 : SmallI 2 (rm2 room a b) := by
        have := HI.out.2.write sb1 (zs b)
        rw [hk.2] at this
        exact this
      have HI2 := Lib.hid i2
      have h3 := rm3_is room a b c hc (by rw [← HNQ.out]; exact cb)
      rw [← HNQ.out] at h3
      have H3 := Lib.hid h3
      clear hD4 HD3 hk i2 h3
      have cbS : True := trivial
      go_wp2_with fail
      refine (write_F (HD4.out.below ((Below.refl _ _).alloc (Nat.le_refl _) _)) (HI2.out.small (by omega)) sb1 (by decide) _ c c (zs c) List.length_replicate (make_C w4 c (by omega)) (Nat.le_refl _) (by omega)).mono ?_
      rw [H3.out]
      by_cases cc : a + c ≤ room
      · have ccI : (a : Int) + (c : Int) ≤ (room : Int) := by omega
        rw [if_pos cc]
        rintro r w5 ⟨rfl, hD5, _⟩
        have HD5 := Lib.hid hD5
        clear hD5 HD4 H3
        go_wp2_with fail
        go_ret
        exact ⟨by simp <;> omega, HD5.out.hB⟩
      · have ccI : ¬ (a : Int) + (c : Int) ≤ (room : Int) := by omega
        rw [if_neg cc]
        rintro r w5 ⟨rfl, hD5, _⟩
        have HD5 := Lib.hid hD5
        clear hD5 HD4 H3
        go_wp2_with fail
        go_ret
        exact ⟨by simp <;> omega, HD5.out.hB⟩
    · have cbI : ¬ (a : Int) + (b : Int) ≤ (room : Int) := by omega
      have hk := rm2_no room a b hb (by rw [← HNQ.out]; exact cb)
      rw [hk.1, hk.2]
      rintro r w4 ⟨rfl, hD4, _⟩
      have HD4 := Lib.hid hD4
      have hu := used_F HD4.out (HI.out.2.small (by omega))
      rw [rm1_used, ← HNQ.out] at hu
      have HU := Lib.hid hu
      clear hD4 HD3 hk hu
      go_wp2_with fail
      refine HU.out.mono ?_
      rintro r w5 ⟨rfl, hB5⟩
      have HB5 := Lib.hid hB5
      clear hB5
      go_wp2_with fail
      go_ret
      exact ⟨by simp, (HD4.out.below HB5.out).hB⟩
  · refine (write_F (HD2.out.below ((Below.refl _ _).alloc (Nat.le_refl _) _)) (HI.out.1.small (by omega)) sa1 (by decide) _ a a (zs a) List.length_replicate (make_C w2 a (by omega)) (Nat.le_refl _) (by omega)).mono ?_
    rw [HE1.out.1, HE1.out.2, if_neg ca]
    rintro r w3 ⟨rfl, hD3, _⟩
    have HD3 := Lib.hid hD3
    clear hD3 HD2
    go_wp2_with fail
    refine (write_F (HD3.out.below ((Below.refl _ _).alloc (Nat.le_refl _) _)) (HI.out.2.small (by omega)) sb1 (by decide) _ b b (zs b) List.length_replicate (make_C w3 b (by omega)) (Nat.le_refl _) (by omega)).mono ?_
    have HNQ := Lib.hid (show 0 = rmN room a by unfold rmN; rw [if_neg ca])
    have caI : ¬ (a : Int) ≤ (room : Int) := by omega
    by_cases cb : 0 + b ≤ room
    · have cbI : (b : Int) ≤ (room : Int) := by omega
      have hk := rm2_is room a b hb (by rw [← HNQ.out]; exact cb)
      rw [hk.1, hk.2]
      rintro r w4 ⟨rfl, hD4, _⟩
      have HD4 := Lib.hid hD4
      have i2 : SmallI 2 (rm2 room a b) := by
        have := HI.out.2.write sb1 (zs b)
        rw [hk.2] at this
        exact this
      have HI2 := Lib.hid i2
      have h3 := rm3_is room a b c hc (by rw [← HNQ.out]; exact cb)
      rw [← HNQ.out] at h3
      have H3 := Lib.hid h3
      clear hD4 HD3 hk i2 h3
      have cbS : True := trivial
      go_wp2_with fail
      refine (write_F (HD4.out.below ((Below.refl _ _).alloc (Nat.le_refl _) _)) (HI2.out.small (by omega)) sb1 (by decide) _ c c (zs c) List.length_replicate (make_C w4 c (by omega)) (Nat.le_refl _) (by omega)).mono ?_
      rw [H3.out]
      by_cases cc : 0 + c ≤ room
      · have ccI : (c : Int) ≤ (room : Int) := by omega
        rw [if_pos cc]
        rintro r w5 ⟨rfl, hD5, _⟩
        have HD5 := Lib.hid hD5
        clear hD5 HD4 H3
        go_wp2_with fail
        go_ret
        exact ⟨by simp <;> omega, HD5.out.hB⟩
      · have ccI : ¬ (c : Int) ≤ (room : Int) := by omega
        rw [if_neg cc]
        rintro r w5 ⟨rfl, hD5, _⟩
        have HD5 := Lib.hid hD5
        clear hD5 HD4 H3
        go_wp2_with fail
        go_ret
        exact ⟨by simp <;> omega, HD5.out.hB⟩
    · have cbI : ¬ (b : Int) ≤ (room : Int) := by omega
      have hk := rm2_no room a b hb (by rw [← HNQ.out]; exact cb)
      rw [hk.1, hk.2]
      rintro r w4 ⟨rfl, hD4, _⟩
      have HD4 := Lib.hid hD4
      have hu := used_F HD4.out (HI.out.2.small (by omega))
      rw [rm1_used, ← HNQ.out] at hu
      have HU := Lib.hid hu
      clear hD4 HD3 hk hu
      go_wp2_with fail
      refine HU.out.mono ?_
      rintro r w5 ⟨rfl, hB5⟩
      have HB5 := Lib.hid hB5
      clear hB5
      go_wp2_with fail
      go_ret
      exact ⟨by simp, (HD4.out.below HB5.out).hB⟩
end Go.Proofs.Ytbfpmlblnfablaa
