/- The reference's digits. -/
import Derived.Test.YthfgkkpibkkiaaaDoorSessQ
set_option linter.unusedVariables false
set_option linter.unusedSimpArgs false
namespace Go.Proofs.YthfgkkpibkkiaaaDoor
open Go.RowKit Go.Proofs.YthfgkkpibkkiaaaDoorW.PrintWords Go.Proofs.YthfgkkpibkkiaaaDoorW.PrintLast Go.Proofs.YthfgkkpibkkiaaaDoor.PSessionPlays

theorem wrap_next {i : Nat} (h : i ≤ 100000000) : wrap64 ((i : Int) + 1) = ((i + 1 : Nat) : Int) := by unfold wrap64; omega
def digV (l : List UInt8) : Int := if digOk l = true then (digN l : Int) else 0
def digA (l : List UInt8) : Int := if digOk l = true then ((runD 14 l + 1 : Nat) : Int) else -1
theorem byte_cell {w : World} {A : Option Addr} {n : Nat} {l : List UInt8} (h : Kd.C (Kd.int .u8) w A n (nmI l)) (i : Nat) (hi : i < n) (hl : n = l.length) : ∃ ad, A = some ad ∧ w.cell? (ad.add i) = some (.int .u8 ((l.getD i 0).toNat : Int)) := by
  obtain ⟨ad, c, e, _, hK, hc0⟩ := Kd.C_get h (0 : Int) (i : Int) (by omega) (by omega)
  have hK' : c = [.int .u8 ((nmI l).getD (Int.toNat (i : Int)) 0)] := hK
  subst hK'
  have h0 : w.cell? (ad.add (Int.toNat (i : Int) * 1 + 0)) = some (.int .u8 ((nmI l).getD (Int.toNat (i : Int)) 0)) := hc0 0 _ rfl
  rw [Int.toNat_natCast, Nat.mul_one, Nat.add_zero] at h0
  refine ⟨ad, e, ?_⟩
  have hx : (nmI l).getD i 0 = ((l.getD i 0).toNat : Int) := by
    unfold nmI
    rw [List.getD_eq_getElem?_getD, List.getD_eq_getElem?_getD, List.getElem?_map, List.getElem?_eq_getElem (show i < l.length by omega)]
    rfl
  rw [hx] at h0
  exact h0
theorem runD_succ {l : List UInt8} {i : Nat} (hi : i ≤ runD 14 l) (hl : i < l.length) (h14 : i < 14) (hd : isDig (l.getD i 0) = true) : i + 1 ≤ runD 14 l := by
  have key : ∀ (k : Nat) (l : List UInt8) (i : Nat), i ≤ runD k l → i < l.length → i < k → isDig (l.getD i 0) = true → i + 1 ≤ runD k l := by
    intro k
    induction k with
    | zero => intro l i _ _ h; omega
    | succ k ih =>
      intro l i hi hl hk hd
      cases l with
      | nil => simp at hl
      | cons c t =>
        unfold runD at hi ⊢
        cases i with
        | zero =>
          have hc : isDig c = true := hd
          rw [if_pos hc]
          omega
        | succ i =>
          split at hi
          · rename_i hc
            rw [if_pos hc]
            have := ih t i (by omega) (by simp at hl; omega) (by omega) hd
            omega
          · omega
  exact key 14 l i hi hl h14 hd
theorem runD_stop {l : List UInt8} {i : Nat} (hi : i ≤ runD 14 l) (h : ¬ (i < l.length ∧ i < 14 ∧ isDig (l.getD i 0) = true)) : runD 14 l = i := by
  have key : ∀ (k : Nat) (l : List UInt8) (i : Nat), i < runD k l → i < l.length ∧ i < k ∧ isDig (l.getD i 0) = true := by
    intro k
    induction k with
    | zero => intro l i h; simp [runD] at h
    | succ k ih =>
      intro l i hi
      cases l with
      | nil => simp [runD] at hi
      | cons c t =>
        unfold runD at hi
        split at hi
        · rename_i hc
          cases i with
          | zero => exact ⟨by simp, by omega, hc⟩
          | succ i =>
            have := ih t i (by omega)
            exact ⟨by simp; omega, by omega, this.2.2⟩
        · omega
  rcases Nat.lt_or_ge i (runD 14 l) with h' | h'
  · exact absurd (key 14 l i h') h
  · omega
theorem valD_next (l : List UInt8) (i : Nat) (h : i < l.length) : valD (l.take (i + 1)) = 10 * valD (l.take i) + ((l.getD i 0).toNat - 48) := by
  have e : l.take (i + 1) = l.take i ++ [l.getD i 0] := by
    rw [List.take_add_one, List.getD_eq_getElem?_getD, List.getElem?_eq_getElem h]
    rfl
  rw [e]
  unfold valD
  rw [valF_append]
  rfl
theorem valD_small (l : List UInt8) (i : Nat) (h : i ≤ runD 14 l) (hi : i < 14) : valD (l.take i) < 10 ^ 13 := by
  unfold valD
  have hall : ∀ c ∈ l.take i, isDig c = true := fun c hc => runD_all 14 l c (List.take_subset_take_left l h hc)
  have h1 := valF_lt (l.take i) hall 0
  refine Nat.lt_of_lt_of_le h1 ?_
  rw [Nat.zero_add, Nat.one_mul]
  exact Nat.pow_le_pow_right (by omega) (by rw [List.length_take]; omega)
theorem byte_dig (c : UInt8) : (isDig c = true ↔ (48 : Int) ≤ (c.toNat : Int) ∧ (c.toNat : Int) ≤ 57) ∧ (c.toNat : Int) < 256 := by
  have := c.toNat_lt
  refine ⟨?_, by omega⟩
  unfold isDig
  rw [decide_eq_true_iff]
  omega
theorem digits_tail (l : List UInt8) (i : Nat) (hr : runD 14 l = i) : digOk l = (decide (0 < i) && decide (i < l.length) && (((l.getD i 0).toNat : Int) == 32) && !(decide (1 < i) && (((l.getD 0 0).toNat : Int) == 48))) := by
  unfold digOk
  rw [hr]
  have e (c : UInt8) (k : Nat) (d : UInt8) (hd : d.toNat = k) : (c == d) = ((c.toNat : Int) == (k : Int)) := by
    rw [Bool.eq_iff_iff, beq_iff_eq, beq_iff_eq, ← UInt8.toNat_inj, hd]
    omega
  rw [e _ 32 32 rfl, e _ 48 48 rfl]
  rfl
set_option maxRecDepth 100000 in
set_option maxHeartbeats 4000000 in
theorem digits_any (A : Option Addr) (n c : Nat) (l : List UInt8) (w : World) (hC : Kd.C (Kd.int .u8) w A n (nmI l)) (hn : n = l.length) (hl : n ≤ 1000000) :
    Calls Tryd.prog 46 #[.slice A n c] w fun r w' => r = .returned (.tuple #[.int .i64 (digV l), .int .i64 (digA l)]) ∧ Below w.heap.size w w' := by
  have HC := Lib.hid hC
  have HN := Lib.hid hn
  have HB := Lib.hid (Below.refl w.heap.size w)
  clear hC hn
  go_enter Tryd.func46, Tryd.ntmps46
  go_wp2_with fail
  go_loopw [4, 5] (fun vn vi wr => ∃ i : Nat, vn = .int .i64 (valD (l.take i) : Int) ∧ vi = .int .i64 (i : Int) ∧ i ≤ runD 14 l ∧ i ≤ n ∧ Below w.heap.size w wr) (fun _ vi _ => n - (intOf vi).toNat)
  case atStart => exact ⟨0, rfl, rfl, by omega, by omega, HB.out⟩
  case round =>
    obtain ⟨i, rfl, rfl, hi, hin, hB⟩ := hrel
    have HBr := Lib.hid hB
    have HI := Lib.hid hi
    clear hB hi
    obtain ⟨N, hN⟩ : ∃ N, N = valD (l.take i) := ⟨_, rfl⟩
    rw [← hN]
    have HNV := Lib.hid hN
    obtain ⟨b, hb⟩ : ∃ b : Int, b = ((l.getD i 0).toNat : Int) := ⟨_, rfl⟩
    obtain ⟨b0, hb0⟩ : ∃ b : Int, b = ((l.getD 0 0).toNat : Int) := ⟨_, rfl⟩
    have hbd := byte_dig (l.getD i 0)
    rw [← hb] at hbd
    have hb00 : 0 ≤ b := by rw [hb]; omega
    have HBB := Lib.hid hb
    have HB0 := Lib.hid hb0
    have hcell : i < n → ∃ ad, A = some ad ∧ wr.cell? (ad.add i) = some (.int .u8 b) := fun h => by
      rw [hb]
      exact byte_cell (Kd.C_below HC.out HBr.out) i h HN.out
    have hcell0 : 0 < n → ∃ ad, A = some ad ∧ wr.cell? (ad.add 0) = some (.int .u8 b0) := fun h => by
      rw [hb0]
      exact byte_cell (Kd.C_below HC.out HBr.out) 0 h HN.out
    have hi0 : (0 : Int) ≤ (i : Int) := by omega
    by_cases hcont : i < l.length ∧ i < 14 ∧ isDig (l.getD i 0) = true
    · obtain ⟨h1, h2, h3⟩ := hcont
      rw [← HN.out] at h1
      have hNs := valD_small l i HI.out h2
      rw [← hN] at hNs
      have hnx := valD_next l i (by rw [← HN.out]; exact h1)
      rw [← hN] at hnx
      have HX := Lib.hid (And.intro hnx (runD_succ HI.out (by rw [← HN.out]; exact h1) h2 h3))
      have d1 : (i : Int) < (n : Int) := by omega
      have d2 : (i : Int) < 14 := by omega
      obtain ⟨d3, d4⟩ := hbd.1.1 h3
      obtain ⟨ad, rfl, hce⟩ := hcell h1
      clear hcell hcell0 hbd h3 hnx hb hb0 hN
      have hw1 : wrap64 (10 * (N : Int)) = 10 * (N : Int) := by unfold wrap64; omega
      have hw2 : IntKind.u8.wrap (b - 48) = b - 48 := by rw [IntKind.wrap_u8]; omega
      have hw3 : wrap64 (b - 48) = b - 48 := by unfold wrap64; omega
      have hw4 : wrap64 (10 * (N : Int) + (b - 48)) = 10 * (N : Int) + (b - 48) := by unfold wrap64; omega
      have hw5 := wrap_next (i := i) (by omega)
      go_wp2_with fail
      refine ⟨⟨i + 1, ?_, by go_num, HX.out.2, by omega, HBr.out⟩, by simp [intOf]; omega⟩
      rw [HX.out.1]
      have := HBB.out
      congr 1
      omega
    · have hr := runD_stop HI.out hcont
      have HR := Lib.hid hr
      rw [← HN.out] at hcont
      have hnd : i < n → i < 14 → ¬ ((48 : Int) ≤ b ∧ b ≤ 57) := fun a c d => hcont ⟨a, c, hbd.1.2 d⟩
      clear hcont hr hbd hb hb0 hN HI
      by_cases h1 : i < n
      · have d1 : (i : Int) < (n : Int) := by omega
        have d1n : ¬ (n : Int) ≤ (i : Int) := by omega
        have hnd := hnd h1
        obtain ⟨ad, rfl, hce⟩ := hcell h1
        clear hcell
        by_cases h2 : i < 14
        · have d2 : (i : Int) < 14 := by omega
          have hnd := hnd h2
          by_cases h3 : (48 : Int) ≤ b
          · have h4 : ¬ b ≤ 57 := fun h => hnd ⟨h3, h⟩
            by_cases hz : i = 0
            · clear hcell0
              have hcez : wr.cell? ad = some (.int .u8 b) := by have h := hce; rw [hz, Addr.add_zero'] at h; exact h
              have dz : ((i : Int) == 0) = true := by rw [beq_iff_eq]; omega
              have hok : digOk l = false := by
                rw [digits_tail l i HR.out]
                rw [← HB0.out, ← HBB.out]
                rw [decide_eq_false (show ¬ 0 < i by omega)]; rfl
              have HE := Lib.hid (show Value.tuple #[.int .i64 (digV l), .int .i64 (digA l)] = .tuple #[.int .i64 (0), .int .i64 (-1)] from by
                unfold digV digA
                rw [hok]
                simp only [if_true, Bool.false_eq_true, if_false])
              clear hok
              go_wp2_with fail
              go_ret2
              rw [HE.out]
              exact ⟨rfl, HBr.out⟩
            · clear hcell0
              have dz : ((i : Int) == 0) = false := by rw [beq_eq_false_iff_ne]; omega
              have hb32 : ¬ b = 32 := by omega
              have d32 : (b == 32) = false := by rw [beq_eq_false_iff_ne]; exact hb32
              have d32n : (b != 32) = true := by rw [bne, d32]; rfl
              have hok : digOk l = false := by
                rw [digits_tail l i HR.out]
                rw [← HB0.out, ← HBB.out]
                rw [d32]; simp
              have HE := Lib.hid (show Value.tuple #[.int .i64 (digV l), .int .i64 (digA l)] = .tuple #[.int .i64 (0), .int .i64 (-1)] from by
                unfold digV digA
                rw [hok]
                simp only [if_true, Bool.false_eq_true, if_false])
              clear hok
              go_wp2_with fail
              go_ret2
              rw [HE.out]
              exact ⟨rfl, HBr.out⟩
          · by_cases hz : i = 0
            · clear hcell0
              have hcez : wr.cell? ad = some (.int .u8 b) := by have h := hce; rw [hz, Addr.add_zero'] at h; exact h
              have dz : ((i : Int) == 0) = true := by rw [beq_iff_eq]; omega
              have hok : digOk l = false := by
                rw [digits_tail l i HR.out]
                rw [← HB0.out, ← HBB.out]
                rw [decide_eq_false (show ¬ 0 < i by omega)]; rfl
              have HE := Lib.hid (show Value.tuple #[.int .i64 (digV l), .int .i64 (digA l)] = .tuple #[.int .i64 (0), .int .i64 (-1)] from by
                unfold digV digA
                rw [hok]
                simp only [if_true, Bool.false_eq_true, if_false])
              clear hok
              go_wp2_with fail
              go_ret2
              rw [HE.out]
              exact ⟨rfl, HBr.out⟩
            · skip
              have dz : ((i : Int) == 0) = false := by rw [beq_eq_false_iff_ne]; omega
              by_cases hb32 : b = 32
              · skip
                have d32 : (b == 32) = true := by rw [beq_iff_eq]; exact hb32
                have d32n : (b != 32) = false := by rw [bne, d32]; rfl
                by_cases h6 : 1 < i
                · skip
                  obtain ⟨ad0, had, hce0⟩ := hcell0 (by omega)
                  obtain rfl : ad = ad0 := Option.some.inj had
                  rw [Addr.add_zero'] at hce0
                  clear hcell0 had
                  have d6 : (1 : Int) < (i : Int) := by omega
                  by_cases hb48 : b0 = 48
                  · have d48 : (b0 == 48) = true := by rw [beq_iff_eq]; exact hb48
                    have hok : digOk l = false := by
                      rw [digits_tail l i HR.out]
                      rw [← HB0.out, ← HBB.out]
                      rw [d48, decide_eq_true (show 1 < i by omega)]; simp
                    have HE := Lib.hid (show Value.tuple #[.int .i64 (digV l), .int .i64 (digA l)] = .tuple #[.int .i64 (0), .int .i64 (-1)] from by
                      unfold digV digA
                      rw [hok]
                      simp only [if_true, Bool.false_eq_true, if_false])
                    clear hok
                    go_wp2_with fail
                    go_ret2
                    rw [HE.out]
                    exact ⟨rfl, HBr.out⟩
                  · have d48 : (b0 == 48) = false := by rw [beq_eq_false_iff_ne]; exact hb48
                    have hok : digOk l = true := by
                      rw [digits_tail l i HR.out]
                      rw [← HB0.out, ← HBB.out]
                      rw [decide_eq_true (show 0 < i by omega), decide_eq_true (show i < l.length by rw [← HN.out]; omega), d32, d48]; simp
                    have HE := Lib.hid (show Value.tuple #[.int .i64 (digV l), .int .i64 (digA l)] = .tuple #[.int .i64 ((N : Int)), .int .i64 ((i : Int) + 1)] from by
                      unfold digV digA
                      rw [hok]
                      rw [if_pos rfl, if_pos rfl, HR.out, show digN l = N from by unfold digN; rw [HR.out, HNV.out]]; rfl)
                    clear hok
                    go_wp2_with fail
                    go_ret2
                    rw [HE.out]
                    exact ⟨rfl, HBr.out⟩
                · have d6 : ¬ (1 : Int) < (i : Int) := by omega
                  clear hcell0
                  have hok : digOk l = true := by
                    rw [digits_tail l i HR.out]
                    rw [← HB0.out, ← HBB.out]
                    rw [decide_eq_true (show 0 < i by omega), decide_eq_true (show i < l.length by rw [← HN.out]; omega), d32, decide_eq_false (show ¬ 1 < i by omega)]; rfl
                  have HE := Lib.hid (show Value.tuple #[.int .i64 (digV l), .int .i64 (digA l)] = .tuple #[.int .i64 ((N : Int)), .int .i64 ((i : Int) + 1)] from by
                    unfold digV digA
                    rw [hok]
                    rw [if_pos rfl, if_pos rfl, HR.out, show digN l = N from by unfold digN; rw [HR.out, HNV.out]]; rfl)
                  clear hok
                  go_wp2_with fail
                  go_ret2
                  rw [HE.out]
                  exact ⟨rfl, HBr.out⟩
              · clear hcell0
                have d32 : (b == 32) = false := by rw [beq_eq_false_iff_ne]; exact hb32
                have d32n : (b != 32) = true := by rw [bne, d32]; rfl
                have hok : digOk l = false := by
                  rw [digits_tail l i HR.out]
                  rw [← HB0.out, ← HBB.out]
                  rw [d32]; simp
                have HE := Lib.hid (show Value.tuple #[.int .i64 (digV l), .int .i64 (digA l)] = .tuple #[.int .i64 (0), .int .i64 (-1)] from by
                  unfold digV digA
                  rw [hok]
                  simp only [if_true, Bool.false_eq_true, if_false])
                clear hok
                go_wp2_with fail
                go_ret2
                rw [HE.out]
                exact ⟨rfl, HBr.out⟩
        · have d2 : ¬ (i : Int) < 14 := by omega
          have dz : ((i : Int) == 0) = false := by rw [beq_eq_false_iff_ne]; omega
          by_cases hb32 : b = 32
          · skip
            have d32 : (b == 32) = true := by rw [beq_iff_eq]; exact hb32
            have d32n : (b != 32) = false := by rw [bne, d32]; rfl
            obtain ⟨ad0, had, hce0⟩ := hcell0 (by omega)
            obtain rfl : ad = ad0 := Option.some.inj had
            rw [Addr.add_zero'] at hce0
            clear hcell0 had
            have d6 : (1 : Int) < (i : Int) := by omega
            by_cases hb48 : b0 = 48
            · have d48 : (b0 == 48) = true := by rw [beq_iff_eq]; exact hb48
              have hok : digOk l = false := by
                rw [digits_tail l i HR.out]
                rw [← HB0.out, ← HBB.out]
                rw [d48, decide_eq_true (show 1 < i by omega)]; simp
              have HE := Lib.hid (show Value.tuple #[.int .i64 (digV l), .int .i64 (digA l)] = .tuple #[.int .i64 (0), .int .i64 (-1)] from by
                unfold digV digA
                rw [hok]
                simp only [if_true, Bool.false_eq_true, if_false])
              clear hok
              go_wp2_with fail
              go_ret2
              rw [HE.out]
              exact ⟨rfl, HBr.out⟩
            · have d48 : (b0 == 48) = false := by rw [beq_eq_false_iff_ne]; exact hb48
              have hok : digOk l = true := by
                rw [digits_tail l i HR.out]
                rw [← HB0.out, ← HBB.out]
                rw [decide_eq_true (show 0 < i by omega), decide_eq_true (show i < l.length by rw [← HN.out]; omega), d32, d48]; simp
              have HE := Lib.hid (show Value.tuple #[.int .i64 (digV l), .int .i64 (digA l)] = .tuple #[.int .i64 ((N : Int)), .int .i64 ((i : Int) + 1)] from by
                unfold digV digA
                rw [hok]
                rw [if_pos rfl, if_pos rfl, HR.out, show digN l = N from by unfold digN; rw [HR.out, HNV.out]]; rfl)
              clear hok
              go_wp2_with fail
              go_ret2
              rw [HE.out]
              exact ⟨rfl, HBr.out⟩
          · clear hcell0
            have d32 : (b == 32) = false := by rw [beq_eq_false_iff_ne]; exact hb32
            have d32n : (b != 32) = true := by rw [bne, d32]; rfl
            have hok : digOk l = false := by
              rw [digits_tail l i HR.out]
              rw [← HB0.out, ← HBB.out]
              rw [d32]; simp
            have HE := Lib.hid (show Value.tuple #[.int .i64 (digV l), .int .i64 (digA l)] = .tuple #[.int .i64 (0), .int .i64 (-1)] from by
              unfold digV digA
              rw [hok]
              simp only [if_true, Bool.false_eq_true, if_false])
            clear hok
            go_wp2_with fail
            go_ret2
            rw [HE.out]
            exact ⟨rfl, HBr.out⟩
      · have d1 : ¬ (i : Int) < (n : Int) := by omega
        have d1n : (n : Int) ≤ (i : Int) := by omega
        clear hcell hcell0
        by_cases hz : i = 0
        · skip
          have dz : ((i : Int) == 0) = true := by rw [beq_iff_eq]; omega
          have hok : digOk l = false := by
            rw [digits_tail l i HR.out]
            rw [← HB0.out, ← HBB.out]
            rw [decide_eq_false (show ¬ 0 < i by omega)]; rfl
          have HE := Lib.hid (show Value.tuple #[.int .i64 (digV l), .int .i64 (digA l)] = .tuple #[.int .i64 (0), .int .i64 (-1)] from by
            unfold digV digA
            rw [hok]
            simp only [if_true, Bool.false_eq_true, if_false])
          clear hok
          go_wp2_with fail
          go_ret2
          rw [HE.out]
          exact ⟨rfl, HBr.out⟩
        · skip
          have dz : ((i : Int) == 0) = false := by rw [beq_eq_false_iff_ne]; omega
          have hok : digOk l = false := by
            rw [digits_tail l i HR.out]
            rw [← HB0.out, ← HBB.out]
            rw [decide_eq_false (show ¬ i < l.length by rw [← HN.out]; omega)]; simp
          have HE := Lib.hid (show Value.tuple #[.int .i64 (digV l), .int .i64 (digA l)] = .tuple #[.int .i64 (0), .int .i64 (-1)] from by
            unfold digV digA
            rw [hok]
            simp only [if_true, Bool.false_eq_true, if_false])
          clear hok
          go_wp2_with fail
          go_ret2
          rw [HE.out]
          exact ⟨rfl, HBr.out⟩
end Go.Proofs.YthfgkkpibkkiaaaDoor
