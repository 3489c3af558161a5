/- The reader of patches' bytes: a number. (mknamj.py wrote it.) -/
import Derived.Test.YtijfedahhgcfpaaDoorNamI
import Derived.WalkMore
import Derived.ScopeJumps
set_option linter.unusedVariables false
set_option linter.unusedSimpArgs false
namespace Go.Proofs.YtijfedahhgcfpaaDoor
open Go.RowKit Go.Proofs.YtijfedahhgcfpaaDoorW.PrintWords Go.Proofs.YtijfedahhgcfpaaDoorW.PrintLast

/-- The reader's state in memory. -/
def RAt (w : World) (rb : Nat) (s : RS) : Prop := w.heap[rb]? = some (.cells #[.string s.1, .bool s.2] 58 (0, 0))
theorem RAt.cells {w : World} {rb : Nat} {s : RS} (h : RAt w rb s) : w.cell? ⟨rb, 0, none⟩ = some (.string s.1) ∧ w.cell? ⟨rb, 1, none⟩ = some (.bool s.2) ∧ rb < w.heap.size ∧ w.frozen? ⟨rb, 0, none⟩ = false ∧ w.frozen? ⟨rb, 1, none⟩ = false :=
  ⟨by simpa using blk_cell h 0, by simpa using blk_cell h 1, blk_lt h, Lib.frozen_of_heap h 0, Lib.frozen_of_heap h 1⟩
theorem RAt.set0 {w : World} {rb : Nat} {s : RS} (h : RAt w rb s) (x : ByteArray) : RAt (w.setCell ⟨rb, 0, none⟩ (.string x)) rb (x, s.2) := by
  unfold RAt at h ⊢
  rw [blk_set h 0]
  rfl
theorem RAt.set1 {w : World} {rb : Nat} {s : RS} (h : RAt w rb s) (x : Bool) : RAt (w.setCell ⟨rb, 1, none⟩ (.bool x)) rb (s.1, x) := by
  unfold RAt at h ⊢
  rw [blk_set h 1]
  rfl
theorem RAt.below {w w' : World} {rb : Nat} {s : RS} (h : RAt w rb s) (hB : Below w.heap.size w w') : RAt w' rb s := blk_below h hB
theorem at_u8N {w : World} {A : Option Addr} {n : Nat} {xs : List Int} (h : Kd.C (Kd.int .u8) w A n xs) (i : Nat) (h1 : i < n) (h2 : i < xs.length) : ∃ ad, A = some ad ∧ w.cell? (ad.add i) = some (.int .u8 (xs[i]'h2)) := by
  obtain ⟨ad, e, hc⟩ := ReadsOf.at_ (Kd.reads_of_C (enc := Value.int .u8) (d := (0 : Int)) (h1 := fun _ => rfl) h) (i : Int) (by omega) (by omega)
  rw [Int.toNat_natCast] at hc
  refine ⟨ad, e, ?_⟩
  rw [hc]
  unfold rdOf
  rw [Int.toNat_natCast, List.getD_eq_getElem?_getD, List.getElem?_eq_getElem h2]
  rfl
theorem wrap_dig (v x : Nat) (hv : v < 100000000000) (h1 : 48 ≤ x) (h2 : x ≤ 57) : wrap64 (wrap64 (10 * (v : Int)) + ((x : Int) - 48)) = ((10 * v + (x - 48) : Nat) : Int) := by
  have e1 : wrap64 (10 * (v : Int)) = ((10 * v : Nat) : Int) := by unfold wrap64; omega
  rw [e1]
  have e2 : ((10 * v : Nat) : Int) + ((x : Int) - 48) = ((10 * v + (x - 48) : Nat) : Int) := by omega
  rw [e2]
  unfold wrap64
  omega
theorem jump_ret {l : Nat} {J : Act → World → Prop} {Q : Exit → Act → World → Prop} {a : Act} {w : World} : Exit.jump l J Q .ret a w = Q .ret a w := rfl
theorem rnum_none {s : ByteArray} {bad : Bool} (h : numP s.data.toList = none) : rnum (s, bad) = (0, (s, true)) := by
  unfold rnum
  simp only
  rw [h]
theorem rnum_bad (s : ByteArray) : rnum (s, true) = (0, (s, true)) := by
  unfold rnum
  simp only
  cases numP s.data.toList with
  | none => rfl
  | some p => rfl
theorem numP_not {b : List UInt8} (h : (Lib.cut b [58]).2.2 = false ∨ digOk (Lib.cut b [58]).1 = false) : numP b = none := by
  unfold numP
  rw [if_neg]
  rintro ⟨h1, h2⟩
  rcases h with h | h
  · rw [h1] at h; cases h
  · rw [h2] at h; cases h
theorem valF_snoc (d : List UInt8) (i : Nat) (h : i < d.length) : valD (d.take (i + 1)) = 10 * valD (d.take i) + ((d[i]'h).toNat - 48) := by
  unfold valD
  rw [← List.take_append_getElem h, valF_append]
  rfl
set_option maxRecDepth 100000 in
set_option maxHeartbeats 16000000 in
theorem rnumber_any (rb : Nat) (s : ByteArray) (bad : Bool) (w : World) (h : RAt w rb (s, bad)) (hs : s.size < 4294967281) (hG : Ground w) :
    Calls Tryd.prog 40 #[.pointer (some ⟨rb, 0, none⟩)] w fun e w' => e = .returned (.int .i64 ((rnum (s, bad)).1 : Int)) ∧ RAt w' rb (rnum (s, bad)).2 ∧ w.grownBy w' (some rb) := by
  obtain ⟨m, hm⟩ := hG.cut
  have hcut := Tryd.strings_Cut s ⟨#[58]⟩ m w hs hm
  rw [show (⟨#[58]⟩ : ByteArray).data.toList = [58] from rfl] at hcut
  obtain ⟨d, hd⟩ : ∃ d, d = (Lib.cut s.data.toList [58]).1 := ⟨_, rfl⟩
  obtain ⟨r, hr⟩ : ∃ r, r = (Lib.cut s.data.toList [58]).2.1 := ⟨_, rfl⟩
  obtain ⟨q, hq⟩ : ∃ q, q = (Lib.cut s.data.toList [58]).2.2 := ⟨_, rfl⟩
  have hN : q = false ∨ digOk d = false → rnum (s, bad) = (0, (s, true)) := fun h0 => rnum_none (numP_not (by rw [← hq, ← hd]; exact h0))
  have hOK : q = true → digOk d = true → bad = false → rnum (s, bad) = (valD d, (baN r, false)) := by
    intro h1 h2 h3
    unfold rnum
    simp only
    have : numP s.data.toList = some (valD d, r) := by
      unfold numP
      rw [← hq, ← hd, ← hr, if_pos ⟨h1, h2⟩]
    rw [this, h3]
    rfl
  rw [← hd, ← hr, ← hq] at hcut
  obtain ⟨D, hD⟩ : ∃ D : ByteArray, D = ⟨d.toArray⟩ := ⟨_, rfl⟩
  obtain ⟨R, hRr⟩ : ∃ R : ByteArray, R = ⟨r.toArray⟩ := ⟨_, rfl⟩
  rw [← hD, ← hRr] at hcut
  have hDs : D.size = d.length := by rw [hD]; exact baN_size d
  have hDl : D.data.toList = d := by rw [hD]
  have hRb : baN r = R := hRr.symm
  rw [hRb] at hOK
  have HDD := Lib.hid (And.intro hDs hDl)
  clear hD hRr hDs hDl hRb
  have HC := Lib.hid hcut
  have HN := Lib.hid hN
  have HOK := Lib.hid hOK
  have HR := Lib.hid (And.intro h (gb_refl w (some rb)))
  obtain ⟨c0, c1, gl, _, _⟩ := h.cells
  clear hcut hN hOK h hd hr hq hm hs hG m
  go_enter Tryd.func40, Tryd.ntmps40
  go_wp2_with fail
  refine wp_scope_jumps 0 (fun a' W => (∃ (u1 u2 u3 u4 u5 u6 u7 u8 u9 u10 u11 u12 u13 u14 u15 u16 u17 u18 u19 u20 u21 u22 u23 u24 u25 u26 u27 u28 u29 u30 u31 u32 u33 u34 u35 u36 u37 u38 u39 u40 u41 u42 u43 u44 u45 u46 u47 u48 u49 u50 u51 u52 u53 u54 u55 u56 u57 u58 u59 u60 u61 u62 u63 u64 u65 u66 u67 u68 u69 u70 : Value), a' = { tmps := #[.pointer (some ⟨rb, 0, none⟩), u1, u2, u3, u4, u5, u6, u7, u8, u9, u10, u11, u12, u13, u14, u15, u16, u17, u18, u19, u20, u21, u22, u23, u24, u25, u26, u27, u28, u29, u30, u31, u32, u33, u34, u35, u36, u37, u38, u39, u40, u41, u42, u43, u44, u45, u46, u47, u48, u49, u50, u51, u52, u53, u54, u55, u56, u57, u58, u59, u60, u61, u62, u63, u64, u65, u66, u67, u68, u69, u70], defers := [] }) ∧ RAt W rb (s, bad) ∧ w.grownBy W (some rb) ∧ rnum (s, bad) = (0, (s, true))) (fun _ _ => 0) rfl ?_ ?_
  · go_wp2_with fail
    refine HC.out.mono ?_
    rintro e w1 ⟨rfl, n0, hw1⟩
    have hB1 : Below w.heap.size w w1 := by rw [hw1]; exact ⟨rfl, rfl, rfl, Nat.le_refl _, fun _ _ => rfl⟩
    have HR1 := Lib.hid (And.intro (HR.out.1.below hB1) (gb_then HR.out.2 hB1))
    clear hB1 hw1 c0 c1 gl
    obtain ⟨c0, c1, gl, _, _⟩ := HR1.out.1.cells
    clear HR HC
    cases q with
    | false =>
      have NUM := Lib.hid (HN.out (.inl rfl))
      go_wp2_with fail
      go_step3
      refine ⟨rfl, ?_, HR1.out.1, HR1.out.2, NUM.out⟩
      repeat apply Exists.intro
      rfl
    | true =>
      have hN2 : digOk d = false → rnum (s, bad) = (0, (s, true)) := fun h => HN.out (.inr h)
      have hOK2 : digOk d = true → bad = false → rnum (s, bad) = (valD d, (R, false)) := HOK.out rfl
      have HN2 := Lib.hid hN2
      have HOK2 := Lib.hid hOK2
      clear hN2 hOK2 HN HOK
      by_cases h0 : d = []
      · have hem : D.toList.isEmpty = true := by rw [ByteArray.toList_eq, HDD.out.2, h0]; rfl
        have NUM := Lib.hid (HN2.out (by rw [h0]; rfl))
        clear h0
        go_wp2_with fail
        go_step3
        refine ⟨rfl, ?_, HR1.out.1, HR1.out.2, NUM.out⟩
        repeat apply Exists.intro
        rfl
      have hem : D.toList.isEmpty = false := by rw [ByteArray.toList_eq, HDD.out.2, List.isEmpty_eq_false_iff]; exact h0
      have H0 := Lib.hid h0
      clear h0
      rcases Nat.lt_or_ge 11 d.length with h11 | h11
      · have h11I : (11 : Int) < (D.size : Int) := by rw [HDD.out.1]; omega
        have NUM := Lib.hid (HN2.out (by unfold digOk; rw [decide_eq_false (show ¬ d.length ≤ 11 by omega)]; simp))
        clear h11
        go_wp2_with fail
        go_step3
        refine ⟨rfl, ?_, HR1.out.1, HR1.out.2, NUM.out⟩
        repeat apply Exists.intro
        rfl
      have h11I : ¬ (11 : Int) < (D.size : Int) := by rw [HDD.out.1]; omega
      have H11 := Lib.hid h11
      clear h11
      obtain ⟨c, W, hrun, hcc, hC, hBW⟩ := bytes_laidN w1 D (by rw [HDD.out.1]; have := H11.out; omega)
      rw [HDD.out.2] at hC
      have HW := Lib.hid (And.intro (HR1.out.1.below hBW) (And.intro (gb_then HR1.out.2 hBW) hC))
      clear hcc hC hBW
      rcases Nat.lt_or_ge 1 d.length with h1 | h1
      · have h1I : (1 : Int) < (D.size : Int) := by rw [HDD.out.1]; omega
        have hd0 : 0 < D.size := by rw [HDD.out.1]; omega
        have hd1 : (D[0]'hd0) = d[0]'(by omega) := by
          show D.data[0]'_ = _
          have : D.data = d.toArray := by rw [← HDD.out.2]
          simp [this]
        cases hq48 : (((D[0]'hd0).toNat : Int) == 48) with
        | true =>
          have NUM := Lib.hid (HN2.out (by
            have h48 : (d[0]'(by omega)) = 48 := by
              rw [← hd1]
              have h := eq_of_beq hq48
              exact UInt8.toNat_inj.1 (by show (D[0]'hd0).toNat = 48; omega)
            unfold digOk
            have hh : d.head? = some 48 := by
              cases hdd : d with
              | nil => rw [hdd] at h1; simp at h1
              | cons a l => simp [hdd] at h48; rw [h48]; rfl
            rw [hh, decide_eq_true h1]
            simp))
          clear h1 hd1
          go_wp2_with fail
          go_step3
          refine ⟨rfl, ?_, HR1.out.1, HR1.out.2, NUM.out⟩
          repeat apply Exists.intro
          rfl
        | false =>
          have HZ := Lib.hid (show (!(decide (1 < d.length) && decide (d.head? = some 48))) = true by
            have h48 : (d[0]'(by omega)) ≠ 48 := by
              rw [← hd1]
              intro e
              rw [e] at hq48
              exact absurd hq48 (by decide)
            have hh : ¬ d.head? = some 48 := by
              cases hdd : d with
              | nil => rw [hdd] at h1; simp at h1
              | cons a l => simp [hdd] at h48 ⊢; exact h48
            rw [decide_eq_false hh]
            simp)
          clear h1 hd1
          go_wp2_with fail
          go_loopw [6, 42] (fun vn vi wr => ∃ i : Nat, i ≤ d.length ∧ vi = .int .i64 (i : Int) ∧ vn = .int .i64 (valD (d.take i) : Int) ∧ (d.take i).all isDig = true ∧ wr = W) (fun _ vi _ => d.length - (Lib.intOf vi).toNat)
          case atStart => exact ⟨0, Nat.zero_le _, rfl, rfl, rfl, rfl⟩
          case round =>
            obtain ⟨i, hin0, rfl, rfl, hall, rfl⟩ := hrel
            have HA := Lib.hid hall
            clear hall
            by_cases hin : i < d.length
            · have hin1 : (i : Int) < (D.size : Int) := by rw [HDD.out.1]; omega
              have hi0 : (0 : Int) ≤ (i : Int) := by omega
              obtain ⟨ad, e, hc⟩ := at_u8N HW.out.2.2 i (by rw [HDD.out.1]; exact hin) (by rw [nmI_length]; exact hin)
              cases e
              rw [show (nmI d)[i]'(by rw [nmI_length]; exact hin) = ((d[i]'hin).toNat : Int) by simp [nmI], show (⟨w1.heap.size, 0, none⟩ : Addr).add i = ⟨w1.heap.size, i, none⟩ by cases i <;> simp [Addr.add]] at hc
              have hvs := valF_snoc d i hin
              have hvl := valF_lt (d.take i) (List.all_eq_true.1 HA.out) 0
              have hpw : 10 ^ (d.take i).length ≤ 10 ^ 11 := Nat.pow_le_pow_right (by omega) (by rw [List.length_take]; have := H11.out; omega)
              have h11e : (10 : Nat) ^ 11 = 100000000000 := by decide
              have htk : d.take (i + 1) = d.take i ++ [d[i]'hin] := (List.take_append_getElem hin).symm
              obtain ⟨x, hx⟩ : ∃ x, x = d[i]'hin := ⟨_, rfl⟩
              rw [← hx] at hc hvs htk
              obtain ⟨v, hv⟩ : ∃ v, v = valD (d.take i) := ⟨_, rfl⟩
              have hvb : v < 100000000000 := by
                rw [hv]
                unfold valD
                omega
              rw [← hv] at hvs
              rw [← hv]
              have hx255 : x.toNat < 256 := x.toNat_lt
              by_cases hdig : isDig x = true
              · have hdd : 48 ≤ x.toNat ∧ x.toNat ≤ 57 := of_decide_eq_true hdig
                have h48 : ¬ (x.toNat : Int) < 48 := by omega
                have h57 : ¬ (57 : Int) < (x.toNat : Int) := by omega
                have HV := Lib.hid (And.intro hvs (And.intro hvb (And.intro htk (And.intro hdig hdd))))
                clear hvs hvl hpw h11e htk hx hdig hdd hvb hv
                go_wp2_with fail
                refine ⟨⟨i + 1, by omega, by go_num, ?_, ?_, trivial⟩, by first | (simp [Lib.intOf]; done) | (simp [Lib.intOf]; omega)⟩
                · rw [HV.out.1, wrap_dig v x.toNat HV.out.2.1 HV.out.2.2.2.2.1 HV.out.2.2.2.2.2]
                · rw [HV.out.2.2.1, List.all_append, HA.out]
                  simpa using HV.out.2.2.2.1
              · have hnd : ¬ (48 ≤ x.toNat ∧ x.toNat ≤ 57) := fun h => hdig (decide_eq_true h)
                have NUM := Lib.hid (HN2.out (by
                  have : d.all isDig = false := by
                    rw [List.all_eq_false]
                    exact ⟨x, by rw [hx]; exact List.getElem_mem hin, hdig⟩
                  unfold digOk
                  rw [this, Bool.and_false]))
                rcases Nat.lt_or_ge x.toNat 48 with h48 | h48
                · have h48I : (x.toNat : Int) < 48 := by omega
                  clear hvs hvl hpw h11e htk hx hdig hnd hvb hv h48
                  go_wp2_with fail
                  go_step3
                  refine ⟨rfl, ?_, HW.out.1, HW.out.2.1, NUM.out⟩
                  repeat apply Exists.intro
                  rfl
                · have h48I : ¬ (x.toNat : Int) < 48 := by omega
                  have h57I : (57 : Int) < (x.toNat : Int) := by omega
                  clear hvs hvl hpw h11e htk hx hdig hnd hvb hv h48
                  go_wp2_with fail
                  go_step3
                  refine ⟨rfl, ?_, HW.out.1, HW.out.2.1, NUM.out⟩
                  repeat apply Exists.intro
                  rfl
            · have hin1 : ¬ (i : Int) < (D.size : Int) := by rw [HDD.out.1]; omega
              have hall : d.take i = d := List.take_of_length_le (by omega)
              rw [hall] at HA
              have HOK3 := Lib.hid (HOK2.out (by
                unfold digOk
                rw [HZ.out, HA.out, decide_eq_true H11.out]
                simpa using H0.out))
              have hall2 : valD (d.take i) = valD d := by rw [hall]
              obtain ⟨k0, k1, gl, fz0, fz1⟩ := HW.out.1.cells
              cases bad with
              | true =>
                have NUM := Lib.hid (rnum_bad s)
                clear hall hall2
                go_wp2_with fail
                go_step3
                refine ⟨rfl, ?_, HW.out.1, HW.out.2.1, NUM.out⟩
                repeat apply Exists.intro
                rfl
              | false =>
                have HV := Lib.hid hall2
                clear hall hall2
                go_wp2_with fail
                rw [jump_ret]
                go_ret
                rw [HOK3.out trivial]
                exact ⟨by rw [HV.out]; rfl, HW.out.1.set0 R, gb_setCell HW.out.2.1 (.inl rfl) _⟩
      · have h1I : ¬ (1 : Int) < (D.size : Int) := by rw [HDD.out.1]; omega
        have HZ := Lib.hid (show (!(decide (1 < d.length) && decide (d.head? = some 48))) = true by rw [decide_eq_false (show ¬ 1 < d.length by omega)]; rfl)
        clear h1
        go_wp2_with fail
        go_loopw [6, 42] (fun vn vi wr => ∃ i : Nat, i ≤ d.length ∧ vi = .int .i64 (i : Int) ∧ vn = .int .i64 (valD (d.take i) : Int) ∧ (d.take i).all isDig = true ∧ wr = W) (fun _ vi _ => d.length - (Lib.intOf vi).toNat)
        case atStart => exact ⟨0, Nat.zero_le _, rfl, rfl, rfl, rfl⟩
        case round =>
          obtain ⟨i, hin0, rfl, rfl, hall, rfl⟩ := hrel
          have HA := Lib.hid hall
          clear hall
          by_cases hin : i < d.length
          · have hin1 : (i : Int) < (D.size : Int) := by rw [HDD.out.1]; omega
            have hi0 : (0 : Int) ≤ (i : Int) := by omega
            obtain ⟨ad, e, hc⟩ := at_u8N HW.out.2.2 i (by rw [HDD.out.1]; exact hin) (by rw [nmI_length]; exact hin)
            cases e
            rw [show (nmI d)[i]'(by rw [nmI_length]; exact hin) = ((d[i]'hin).toNat : Int) by simp [nmI], show (⟨w1.heap.size, 0, none⟩ : Addr).add i = ⟨w1.heap.size, i, none⟩ by cases i <;> simp [Addr.add]] at hc
            have hvs := valF_snoc d i hin
            have hvl := valF_lt (d.take i) (List.all_eq_true.1 HA.out) 0
            have hpw : 10 ^ (d.take i).length ≤ 10 ^ 11 := Nat.pow_le_pow_right (by omega) (by rw [List.length_take]; have := H11.out; omega)
            have h11e : (10 : Nat) ^ 11 = 100000000000 := by decide
            have htk : d.take (i + 1) = d.take i ++ [d[i]'hin] := (List.take_append_getElem hin).symm
            obtain ⟨x, hx⟩ : ∃ x, x = d[i]'hin := ⟨_, rfl⟩
            rw [← hx] at hc hvs htk
            obtain ⟨v, hv⟩ : ∃ v, v = valD (d.take i) := ⟨_, rfl⟩
            have hvb : v < 100000000000 := by
              rw [hv]
              unfold valD
              omega
            rw [← hv] at hvs
            rw [← hv]
            have hx255 : x.toNat < 256 := x.toNat_lt
            by_cases hdig : isDig x = true
            · have hdd : 48 ≤ x.toNat ∧ x.toNat ≤ 57 := of_decide_eq_true hdig
              have h48 : ¬ (x.toNat : Int) < 48 := by omega
              have h57 : ¬ (57 : Int) < (x.toNat : Int) := by omega
              have HV := Lib.hid (And.intro hvs (And.intro hvb (And.intro htk (And.intro hdig hdd))))
              clear hvs hvl hpw h11e htk hx hdig hdd hvb hv
              go_wp2_with fail
              refine ⟨⟨i + 1, by omega, by go_num, ?_, ?_, trivial⟩, by first | (simp [Lib.intOf]; done) | (simp [Lib.intOf]; omega)⟩
              · rw [HV.out.1, wrap_dig v x.toNat HV.out.2.1 HV.out.2.2.2.2.1 HV.out.2.2.2.2.2]
              · rw [HV.out.2.2.1, List.all_append, HA.out]
                simpa using HV.out.2.2.2.1
            · have hnd : ¬ (48 ≤ x.toNat ∧ x.toNat ≤ 57) := fun h => hdig (decide_eq_true h)
              have NUM := Lib.hid (HN2.out (by
                have : d.all isDig = false := by
                  rw [List.all_eq_false]
                  exact ⟨x, by rw [hx]; exact List.getElem_mem hin, hdig⟩
                unfold digOk
                rw [this, Bool.and_false]))
              rcases Nat.lt_or_ge x.toNat 48 with h48 | h48
              · have h48I : (x.toNat : Int) < 48 := by omega
                clear hvs hvl hpw h11e htk hx hdig hnd hvb hv h48
                go_wp2_with fail
                go_step3
                refine ⟨rfl, ?_, HW.out.1, HW.out.2.1, NUM.out⟩
                repeat apply Exists.intro
                rfl
              · have h48I : ¬ (x.toNat : Int) < 48 := by omega
                have h57I : (57 : Int) < (x.toNat : Int) := by omega
                clear hvs hvl hpw h11e htk hx hdig hnd hvb hv h48
                go_wp2_with fail
                go_step3
                refine ⟨rfl, ?_, HW.out.1, HW.out.2.1, NUM.out⟩
                repeat apply Exists.intro
                rfl
          · have hin1 : ¬ (i : Int) < (D.size : Int) := by rw [HDD.out.1]; omega
            have hall : d.take i = d := List.take_of_length_le (by omega)
            rw [hall] at HA
            have HOK3 := Lib.hid (HOK2.out (by
              unfold digOk
              rw [HZ.out, HA.out, decide_eq_true H11.out]
              simpa using H0.out))
            have hall2 : valD (d.take i) = valD d := by rw [hall]
            obtain ⟨k0, k1, gl, fz0, fz1⟩ := HW.out.1.cells
            cases bad with
            | true =>
              have NUM := Lib.hid (rnum_bad s)
              clear hall hall2
              go_wp2_with fail
              go_step3
              refine ⟨rfl, ?_, HW.out.1, HW.out.2.1, NUM.out⟩
              repeat apply Exists.intro
              rfl
            | false =>
              have HV := Lib.hid hall2
              clear hall hall2
              go_wp2_with fail
              rw [jump_ret]
              go_ret
              rw [HOK3.out trivial]
              exact ⟨by rw [HV.out]; rfl, HW.out.1.set0 R, gb_setCell HW.out.2.1 (.inl rfl) _⟩
  · rintro a' W ⟨⟨u1, u2, u3, u4, u5, u6, u7, u8, u9, u10, u11, u12, u13, u14, u15, u16, u17, u18, u19, u20, u21, u22, u23, u24, u25, u26, u27, u28, u29, u30, u31, u32, u33, u34, u35, u36, u37, u38, u39, u40, u41, u42, u43, u44, u45, u46, u47, u48, u49, u50, u51, u52, u53, u54, u55, u56, u57, u58, u59, u60, u61, u62, u63, u64, u65, u66, u67, u68, u69, u70, rfl⟩, hR, hg, hn⟩
    obtain ⟨c0, c1, gl, fz0, fz1⟩ := hR.cells
    have HH := Lib.hid (And.intro hR (And.intro hg hn))
    clear hR hg hn
    go_wp2_with fail
    rw [jump_ret]
    go_ret
    rw [HH.out.2.2]
    exact ⟨rfl, HH.out.1.set1 true, gb_setCell HH.out.2.1 (.inl rfl) _⟩
end Go.Proofs.YtijfedahhgcfpaaDoor
