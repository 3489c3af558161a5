/- The walk of the reference's Kept. -/
import Derived.Test.YtjclpepdjnffaaaDiffW5
import Derived.IntWalk
set_option linter.unusedVariables false
set_option linter.unusedSimpArgs false
namespace Go.Proofs.Ytjclpepdjnffaaa
open Go.RowKit Go.Proofs.YtjclpepdjnffaaaW.PrintWords Go.Proofs.YtjclpepdjnffaaaW.PrintLast
attribute [local go_sem] Go.Proofs.YtjclpepdjnffaaaW.PrintMore.max_two

def int64 (n : Nat) : Value := .int .i64 (n : Int)
def LL (a b : List ByteArray) (i k : Nat) : Nat := lcs (a.drop i) (b.drop k)
theorem LL_le (a b : List ByteArray) (i k : Nat) : LL a b i k ≤ a.length := by
  have := lcs_left (a.drop i) (b.drop k)
  rw [List.length_drop] at this
  unfold LL
  omega
theorem LL_end (a b : List ByteArray) (k : Nat) : LL a b a.length k = 0 := by
  unfold LL
  rw [List.drop_eq_nil_of_le (Nat.le_refl _), lcs_nil]
theorem LL_end2 (a b : List ByteArray) (i : Nat) : LL a b i b.length = 0 := by
  unfold LL
  rw [List.drop_eq_nil_of_le (Nat.le_refl b.length), lcs_nil2]
theorem LL_step (a b : List ByteArray) (i k : Nat) (h1 : i < a.length) (h2 : k < b.length) :
    LL a b i k = if a[i] = b[k] then max (max (LL a b (i + 1) k) (LL a b i (k + 1))) (LL a b (i + 1) (k + 1) + 1) else max (LL a b (i + 1) k) (LL a b i (k + 1)) := by
  unfold LL
  rw [List.drop_eq_getElem_cons h1, List.drop_eq_getElem_cons h2, lcs_cons]
theorem info37 : (Try.prog.info? 37).map (fun i => (i.zero, i.size, i.bytes)) = some (some (.slice none 0 0), 1, 24) := by kernel_rfl
theorem make_ints (m : Nat) (hm : m ≤ 10000) (W : World) : (Instr.makeSlice 37 (.int .i64 (m : Int)) (.int .i64 (m : Int))).run Try.prog W = .ok (.slice (some ⟨W.heap.size, 0, none⟩) m m) (W.alloc (.cells (List.replicate m (int64 0)).toArray 3)) := by
  have h := run_make_row' 37 3 (.int .i64 0) 8 Try.underlying37 (by kernel_rfl) rfl .i64 .i64 m (by omega) (by omega) W
  have e : madeCells #[Value.int .i64 0] m = (List.replicate m (int64 0)).toArray := by
    apply Array.ext'
    rw [toList_madeCells_one]
    rfl
  rw [← e]
  exact h
set_option maxRecDepth 100000 in
set_option maxHeartbeats 4000000 in
theorem kept_n (na nb : Nat) (w : World) (A : Option Addr) (ca : Nat) (B : Option Addr) (cb : Nat) (a b : List ByteArray) (hna : a.length = na) (hnb : b.length = nb) (ha : Kd.string.C w A na a) (hb : Kd.string.C w B nb b) (hn : na + nb ≤ 1200) :
    Calls Try.prog 20 #[.slice A na ca, .slice B nb cb] w fun e w' => ∃ v blk, e = .returned v ∧ TabAt int64 3 37 w' w.heap.size v (na + 1) (nb + 1) (LL a b) blk ∧ Below w.heap.size w w' := by
  have HA := Lib.hid ha
  have HB := Lib.hid hb
  have HNA := Lib.hid hna
  have HNB := Lib.hid hnb
  clear ha hb hna hnb
  go_enter Try.func20, Try.ntmps20
  go_wp2_with fail
  have hn1 : (nb : Int) + 1 ≤ 1201 := by omega
  have hn0 : (0 : Int) ≤ (nb : Int) + 1 := by omega
  have hnt : ((nb : Int) + 1).toNat = nb + 1 := by omega
  go_loopw [6, 5] (fun v vr wr => ∃ j : Nat, j ≤ na + 1 ∧ v = .int .i64 j ∧ ∃ blk, TabAt int64 3 37 wr w.heap.size vr j (nb + 1) (fun _ _ => 0) blk ∧ Below w.heap.size w wr) (fun v _ _ => na + 1 - (intOf v).toNat)
  case atStart => exact ⟨0, by omega, rfl, fun _ => 0, TabAt.nil _ _ _ _ _ _ _ _, Below.refl _ _⟩
  case round =>
    obtain ⟨j, hj, rfl, blk, ht, hB1⟩ := hrel
    have HT := Lib.hid ht
    have HB1 := Lib.hid hB1
    clear ht hB1
    by_cases hjn : j < na + 1
    · have d1 : (j : Int) ≤ (na : Int) := by omega
      have hmk : ∀ W : World, (Instr.makeSlice 37 (.int .i64 ((nb : Int) + 1)) (.int .i64 ((nb : Int) + 1))).run Try.prog W = .ok (.slice (some ⟨W.heap.size, 0, none⟩) (nb + 1) (nb + 1)) (W.alloc (.cells (List.replicate (nb + 1) (int64 0)).toArray 3)) := fun W => make_ints (nb + 1) (by omega) W
      have hnew : (wr.alloc (.cells (Array.replicate (nb + 1) (int64 0)) 3)).heap[wr.heap.size]? = some (.cells (List.replicate (nb + 1) (int64 0)).toArray 3 (0, 0)) := by
        rw [List.toArray_replicate]
        exact heap_alloc_new wr (.cells (Array.replicate (nb + 1) (int64 0)) 3)
      have hBW : Below wr.heap.size wr (wr.alloc (.cells (Array.replicate (nb + 1) (int64 0)) 3)) := (Below.refl wr.heap.size wr).alloc (Nat.le_refl _) _
      have HNEW := Lib.hid hnew
      have HBW := Lib.hid hBW
      have HT0 := Lib.hid (HT.out.below hBW)
      have HBLK := Lib.hid (show ∀ i, i < j → blk i < wr.heap.size from fun i hi => blk_lt (HT.out.row i hi).2)
      have hpw : w.heap.size ≤ wr.heap.size := HB1.out.size
      clear hnew hBW HT
      go_wp2_with (at_builtin; refine print_append_cells (w0 := wr) (W := wr.alloc (.cells (Array.replicate (nb + 1) (int64 0)) 3)) w.heap.size rfl _ _ 35 37 (.slice none 0 0) 1 24 rfl Try.underlying35 info37 rfl (by decide) (by decide) u5 j ((List.range j).map fun i => .slice (some ⟨blk i, 0, none⟩) (nb + 1) (nb + 1)) [.slice (some ⟨wr.heap.size, 0, none⟩) (nb + 1) (nb + 1)] rfl (by rw [show (wr.alloc (.cells (Array.replicate (nb + 1) (int64 0)) 3)).heap.size = wr.heap.size + 1 by simp]; rfl) rfl ?hone ?HO ?HB ?hbase ?hl ?hk)
      case hone => intro u hu; rw [List.mem_singleton.1 hu]; rfl
      case HO => exact HT0.out.rows
      case HB => exact HBW.out.mono hpw
      case hbase => exact Nat.le_trans hpw HBW.out.size
      case hl => omega
      intro v1 w1 hrow1 hB2 hg1 hat1
      have hT1 := HT0.out.snoc hrow1 hg1 (by decide) (fun _ => rfl) hpw HNEW.out (fun i hi => by have := HBLK.out i hi; omega)
      obtain ⟨g1, cap1, rfl, _, _, _, _⟩ := own_form hrow1 (by omega)
      have HT1 := Lib.hid hT1
      have HB2 := Lib.hid hB2
      clear hrow1 hg1 hat1 hT1 hB2 HT0 HBW HNEW HBLK
      go_wp2_with fail
      exact ⟨⟨j + 1, by omega, by go_num, _, HT1.out, HB1.out.trans HB2.out⟩, by simp [intOf]; omega⟩
    · obtain rfl : j = na + 1 := by omega
      have d1 : ¬ ((na + 1 : Nat) : Int) ≤ (na : Int) := by omega
      clear hj
      go_wp2_with fail
      obtain ⟨g, cap, rfl, _, _, _, _⟩ := own_form HT.out.rows (by omega)
      go_loopw [7] (fun v w2 => ∃ (m : Nat) (T : Nat → Nat → Nat), m ≤ na ∧ v = .int .i64 ((m : Int) - 1) ∧ (∀ i k, m ≤ i → i ≤ na → k ≤ nb → T i k = LL a b i k) ∧ (∀ i, i ≤ na → T i nb = 0) ∧ TabAt int64 3 37 w2 w.heap.size (.slice (some ⟨g, 0, none⟩) (na + 1) cap) (na + 1) (nb + 1) T blk ∧ Below w.heap.size w w2) (fun v _ => (intOf v + 1).toNat)
      case atStart =>
        refine ⟨na, _, Nat.le_refl _, rfl, fun i k h1 h2 h3 => ?_, fun _ _ => rfl, HT.out, HB1.out⟩
        obtain rfl : i = na := by omega
        rw [← HNA.out, LL_end]
      case round =>
        obtain ⟨m, T, hm, rfl, hT, hT0, htab, hB2⟩ := hrel
        clear HT HB1
        have HTAB := Lib.hid htab
        have HTT := Lib.hid (And.intro hT hT0)
        have HB2 := Lib.hid hB2
        clear htab hT hT0 hB2
        by_cases hm0 : m = 0
        · subst hm0
          have d1 : ¬ ((0 : Nat) : Int) - 1 ≥ 0 := by omega
          go_wp2_with fail
          go_ret
          exact ⟨_, rfl, ⟨_, HTAB.out.congr (fun i k h1 h2 => HTT.out.1 i k (by omega) (by omega) (by omega))⟩, HB2.out⟩
        · obtain ⟨i, rfl⟩ : ∃ i, m = i + 1 := ⟨m - 1, by omega⟩
          rw [show (((i + 1 : Nat) : Int) - 1) = (i : Int) by omega]
          have d1 : (i : Int) ≥ 0 := by omega
          go_wp2_with fail
          go_loopw [8] (fun v w3 => ∃ (q : Nat) (T : Nat → Nat → Nat), q ≤ nb ∧ v = .int .i64 ((q : Int) - 1) ∧ (∀ i' k, i + 1 ≤ i' → i' ≤ na → k ≤ nb → T i' k = LL a b i' k) ∧ (∀ i', i' ≤ na → T i' nb = 0) ∧ (∀ k, q ≤ k → k ≤ nb → T i k = LL a b i k) ∧ TabAt int64 3 37 w3 w.heap.size (.slice (some ⟨g, 0, none⟩) (na + 1) cap) (na + 1) (nb + 1) T blk ∧ Below w.heap.size w w3) (fun v _ => (intOf v + 1).toNat)
          case atStart =>
            refine ⟨nb, T, Nat.le_refl _, rfl, HTT.out.1, HTT.out.2, fun k h1 h2 => ?_, HTAB.out, HB2.out⟩
            obtain rfl : k = nb := by omega
            rw [HTT.out.2 i (by omega), ← HNB.out, LL_end2]
          case round =>
            obtain ⟨q, T, hq, rfl, hT, hT0, hT2, htab, hB3⟩ := hrel
            clear HTAB HTT HB2
            have HTAB := Lib.hid htab
            have HTT := Lib.hid (And.intro hT (And.intro hT0 hT2))
            have HB3 := Lib.hid hB3
            clear htab hT hT0 hT2 hB3
            by_cases hq0 : q = 0
            · subst hq0
              have d2 : ¬ ((0 : Nat) : Int) - 1 ≥ 0 := by omega
              go_wp2_with fail
              refine ⟨⟨i, T, by omega, by go_num, fun i' k h1 h2 h3 => ?_, HTT.out.2.1, HTAB.out, HB3.out⟩, by simp [intOf]⟩
              by_cases e : i' = i
              · subst e; exact HTT.out.2.2 k (by omega) h3
              · exact HTT.out.1 i' k (by omega) h2 h3
            · obtain ⟨k, rfl⟩ : ∃ k, q = k + 1 := ⟨q - 1, by omega⟩
              rw [show (((k + 1 : Nat) : Int) - 1) = (k : Int) by omega]
              have d2 : (k : Int) ≥ 0 := by omega
              have hkn : k < nb := by omega
              have hin : i < na := by omega
              obtain ⟨x1, x2, l2, f2⟩ := HTAB.out.get g cap rfl (i := i + 1) (k := k) (by omega) (by omega)
              obtain ⟨y1, y2, l3, f3⟩ := HTAB.out.get g cap rfl (i := i) (k := k + 1) (by omega) (by omega)
              obtain ⟨_, z2, _, _⟩ := HTAB.out.get g cap rfl (i := i + 1) (k := k + 1) (by omega) (by omega)
              obtain ⟨_, u2, _, fu⟩ := HTAB.out.get g cap rfl (i := i) (k := k) (by omega) (by omega)
              obtain ⟨ad, rfl, ca1⟩ := Kd.at_string (Kd.C_below HA.out HB3.out) (i : Int) (by omega) (by omega)
              obtain ⟨bd, rfl, cb1⟩ := Kd.at_string (Kd.C_below HB.out HB3.out) (k : Int) (by omega) (by omega)
              rw [rdOf_nat _ _ _ (by rw [HNA.out]; exact hin), Int.toNat_natCast] at ca1
              rw [rdOf_nat _ _ _ (by rw [HNB.out]; exact hkn), Int.toNat_natCast] at cb1
              have HST := Lib.hid (LL_step a b i k (by rw [HNA.out]; exact hin) (by rw [HNB.out]; exact hkn))
              obtain ⟨xa, hxa⟩ : ∃ x, x = a[i]'(by rw [HNA.out]; exact hin) := ⟨_, rfl⟩
              obtain ⟨xb, hxb⟩ : ∃ x, x = b[k]'(by rw [HNB.out]; exact hkn) := ⟨_, rfl⟩
              have hst := HST.out
              rw [← hxa] at ca1 hst
              rw [← hxb] at cb1 hst
              have e1 := HTT.out.1 (i + 1) k (by omega) (by omega) (by omega)
              have e2 := HTT.out.2.2 (k + 1) (by omega) (by omega)
              have e3 := HTT.out.1 (i + 1) (k + 1) (by omega) (by omega) (by omega)
              rw [e1] at x2
              rw [e2] at y2
              rw [e3] at z2
              have b1 := LL_le a b (i + 1) k
              have b2 := LL_le a b i (k + 1)
              have b3 := LL_le a b (i + 1) (k + 1)
              rw [HNA.out] at b1 b2 b3
              unfold int64 at x2 y2 z2 u2
              obtain ⟨X, hX⟩ : ∃ X, X = LL a b (i + 1) k := ⟨_, rfl⟩
              obtain ⟨Y, hY⟩ : ∃ Y, Y = LL a b i (k + 1) := ⟨_, rfl⟩
              obtain ⟨Z, hZ⟩ : ∃ Z, Z = LL a b (i + 1) (k + 1) := ⟨_, rfl⟩
              rw [← hX] at x2 hst b1
              rw [← hY] at y2 hst b2
              rw [← hZ] at z2 hst b3
              have HFIN := Lib.hid (show ∀ (W : World) (V : Int), V = ((LL a b i k : Nat) : Int) → TabAt int64 3 37 W w.heap.size (.slice (some ⟨g, 0, none⟩) (na + 1) cap) (na + 1) (nb + 1) T blk → Below w.heap.size w W → ∃ T', (∀ i' k', i + 1 ≤ i' → i' ≤ na → k' ≤ nb → T' i' k' = LL a b i' k') ∧ (∀ i', i' ≤ na → T' i' nb = 0) ∧ (∀ k', k ≤ k' → k' ≤ nb → T' i k' = LL a b i k') ∧ TabAt int64 3 37 (W.setCell ⟨blk i, k, none⟩ (.int .i64 V)) w.heap.size (.slice (some ⟨g, 0, none⟩) (na + 1) cap) (na + 1) (nb + 1) T' blk ∧ Below w.heap.size w (W.setCell ⟨blk i, k, none⟩ (.int .i64 V)) from by
                rintro W V rfl hp hB
                refine ⟨_, fun i' k' h1 h2 h3 => ?_, fun i' h1 => ?_, fun k' h1 h2 => ?_, hp.put (by decide) (i := i) (k := k) (by omega) (by omega) (LL a b i k), hB.setCell (p := ⟨blk i, k, none⟩) (hp.row i (by omega)).1 _⟩
                · rw [if_neg (by omega)]
                  exact HTT.out.1 i' k' h1 h2 h3
                · rw [if_neg (by omega)]
                  exact HTT.out.2.1 i' h1
                · by_cases e : k' = k
                  · rw [if_pos ⟨rfl, e⟩, e]
                  · rw [if_neg (by omega)]
                    exact HTT.out.2.2 k' (by omega) h2)
              have HV := Lib.hid (And.intro hst (And.intro hxa hxb))
              clear hst hxa hxb hX hY hZ e1 e2 e3 HST
              generalize hb1 : blk (i + 1) = blk1 at *
              generalize hb0 : blk i = blk0 at *
              clear hb1 hb0
              obtain ⟨_, _, _, _, _, lg, _⟩ := own_form HTAB.out.rows (by omega)
              obtain ⟨M, hM⟩ : ∃ M, M = max X Y := ⟨_, rfl⟩
              have hmax1 : Builtin.max2 (.int .i64 (X : Int)) (.int .i64 (Y : Int)) = pure (.int .i64 (M : Int)) := by
                rw [Go.Proofs.YtjclpepdjnffaaaW.PrintMore.max2_int]
                congr 2
                split <;> omega
              obtain ⟨N, hN⟩ : ∃ N, N = max M (Z + 1) := ⟨_, rfl⟩
              have hmax2 : Builtin.max2 (.int .i64 (M : Int)) (.int .i64 ((Z : Int) + 1)) = pure (.int .i64 (N : Int)) := by
                rw [Go.Proofs.YtjclpepdjnffaaaW.PrintMore.max2_int]
                congr 2
                split <;> omega
              have HM := Lib.hid hM
              have HN := Lib.hid hN
              clear hM hN
              by_cases hxy : xa = xb
              · subst hxy
                go_wp2_with fail
                go_quiet (fail)
                go_wp2_with fail
                go_quiet (fail)
                go_wp2_with fail
                have hv := HV.out.1
                rw [if_pos trivial] at hv
                obtain ⟨T', t1, t2, t3, t4, t5⟩ := HFIN.out (wr.drewN _) (N : Int) (by rw [hv, HN.out, HM.out]) (HTAB.out.below (below_drewN0 _ _)) (pw_below_drewN HB3.out _)
                exact ⟨⟨k, T', by omega, rfl, t1, t2, t3, t4, t5⟩, by simp [intOf]⟩
              · have hq : (xa.toList == xb.toList) = false := by rw [beq_eq_false_iff_ne]; exact fun h => hxy ((bytes_eq _ _).1 h)
                go_wp2_with fail
                go_quiet (fail)
                go_wp2_with fail
                go_quiet (fail)
                go_wp2_with fail
                have hv := HV.out.1
                rw [if_neg hxy] at hv
                obtain ⟨T', t1, t2, t3, t4, t5⟩ := HFIN.out (wr.drewN _) (M : Int) (by rw [hv, HM.out]) (HTAB.out.below (below_drewN0 _ _)) (pw_below_drewN HB3.out _)
                exact ⟨⟨k, T', by omega, rfl, t1, t2, t3, t4, t5⟩, by simp [intOf]⟩
end Go.Proofs.Ytjclpepdjnffaaa
