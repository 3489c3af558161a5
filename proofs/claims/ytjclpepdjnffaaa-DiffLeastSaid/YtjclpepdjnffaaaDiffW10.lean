/- The walk of the reference's Apply. -/
import Derived.Test.YtjclpepdjnffaaaDiffW9
set_option linter.unusedVariables false
set_option linter.unusedSimpArgs false
namespace Go.Proofs.Ytjclpepdjnffaaa
open Go.RowKit Go.Proofs.YtjclpepdjnffaaaW.PrintWords Go.Proofs.YtjclpepdjnffaaaW.PrintLast Go.Proofs.Ytjclpepdjnffaaa.PDiffTells

theorem str_made (w : World) (base : Nat) (hb : base ≤ w.heap.size) : Kd.string.R 9 (w.alloc (.cells #[] 9)) base (fun _ => True) (.slice (some ⟨w.heap.size, 0, none⟩) 0 0) [] :=
  ⟨fun _ _ => trivial, [], World.ownsRow_made (base := base) (e := 9) (size := 1) w #[] 0 hb (by decide) rfl, Reps.none _ _⟩
theorem eqUpto (x old : List ByteArray) (q j : Nat) (h1 : q + j < x.length) (h2 : j < old.length) (h : (x.take (q + j)).drop q = old.take j) (e : x[q + j] = old[j]) : (x.take (q + (j + 1))).drop q = old.take (j + 1) := by
  rw [← Nat.add_assoc, List.take_succ_eq_append_getElem h1, List.take_succ_eq_append_getElem h2, List.drop_append_of_le_length (by rw [List.length_take]; omega), h, e]
theorem neUpto (x old : List ByteArray) (q j : Nat) (h1 : q + old.length ≤ x.length) (h2 : j < old.length) (e : ¬ x[q + j] = old[j]) : ¬ (x.take (q + old.length)).drop q = old := by
  intro h
  have := congrArg (fun l => l[j]?) h
  simp only [List.getElem?_drop, List.getElem?_take] at this
  rw [if_pos (by omega), List.getElem?_eq_getElem (by omega), List.getElem?_eq_getElem h2] at this
  exact e (Option.some.inj this)
set_option maxRecDepth 100000 in
set_option maxHeartbeats 8000000 in
theorem rapply_n (n no nn c co cn : Nat) (w : World) (A Ao An : Option Addr) (x old new : List ByteArray) (p : Int) (hn : x.length = n) (hno : old.length = no) (hnn : new.length = nn) (hA : Kd.string.C w A n x) (hc : n ≤ c) (hO : Kd.string.C w Ao no old) (hco : no ≤ co) (hN : Kd.string.C w An nn new) (hcn : nn ≤ cn)
    (b1 : n ≤ 100000000) (b2 : no ≤ 100000000) (b3 : nn ≤ 100000000) :
    Calls Try.prog 15 #[.slice A n c, .agg #[.int .i64 p, .slice Ao no co, .slice An nn cn]] w fun e w' => ∃ v, e = .returned (.tuple #[v, .bool (appliedI x p old new).isSome]) ∧ Kd.string.R 9 w' w.heap.size (fun _ => True) v ((appliedI x p old new).getD []) ∧ Below w.heap.size w w' := by
  have HA := Lib.hid hA
  have HO := Lib.hid hO
  have HN := Lib.hid hN
  have HL := Lib.hid (And.intro hn (And.intro hno hnn))
  clear hA hO hN hn hno hnn
  by_cases hp : p < 0
  · rw [appliedI_low _ _ _ _ hp]
    go_enter Try.func15, Try.ntmps15
    go_wp2_with fail
    go_ret2
    exact ⟨_, rfl, Kd.R_nil _ _ _ _ _, (Below.refl _ _).alloc (Nat.le_refl _) _⟩
  · obtain ⟨q, rfl⟩ : ∃ q : Nat, p = (q : Int) := ⟨p.toNat, by omega⟩
    rw [appliedI_nat]
    by_cases hfar : n < q
    · have d2 : (q : Int) > (n : Int) := by omega
      rw [applied_far _ _ _ _ (by rw [HL.out.1]; omega)]
      go_enter Try.func15, Try.ntmps15
      go_wp2_with fail
      go_ret2
      exact ⟨_, rfl, Kd.R_nil _ _ _ _ _, (Below.refl _ _).alloc (Nat.le_refl _) _⟩
    · have d2 : ¬ (q : Int) > (n : Int) := by omega
      by_cases hlong : n < q + no
      · have d3 : (no : Int) > (n : Int) - (q : Int) := by omega
        rw [applied_far _ _ _ _ (by rw [HL.out.1, HL.out.2.1]; omega)]
        go_enter Try.func15, Try.ntmps15
        go_wp2_with fail
        go_ret2
        exact ⟨_, rfl, Kd.R_nil _ _ _ _ _, (Below.refl _ _).alloc (Nat.le_refl _) _⟩
      · have d3 : ¬ (no : Int) > (n : Int) - (q : Int) := by omega
        obtain ⟨R, hR⟩ : ∃ R, R = applied x ⟨q, old, new⟩ := ⟨_, rfl⟩
        rw [← hR]
        rw [applied_in _ _ _ _ (by rw [HL.out.1, HL.out.2.1]; omega), HL.out.2.1] at hR
        have HR := Lib.hid hR
        clear hR
        go_enter Try.func15, Try.ntmps15
        go_wp2_with fail
        have hB0 : Below w.heap.size w (w.alloc (.cells #[.int .i64 (q : Int), .slice Ao no co, .slice An nn cn] 24)) := (Below.refl _ _).alloc (Nat.le_refl _) _
        have hblk0 : (w.alloc (.cells #[.int .i64 (q : Int), .slice Ao no co, .slice An nn cn] 24)).heap[w.heap.size]? = some (.cells #[.int .i64 (q : Int), .slice Ao no co, .slice An nn cn] 24 (0, 0)) := heap_alloc_new _ _
        have HB0 := Lib.hid hB0
        have HK0 := Lib.hid hblk0
        clear hB0 hblk0
        obtain ⟨hb, hhb⟩ : ∃ hb, hb = w.heap.size := ⟨_, rfl⟩
        rw [← hhb] at HK0 ⊢
        have HHB := Lib.hid hhb
        clear hhb
        go_loopw [6] (fun v wr => ∃ j : Nat, j ≤ no ∧ v = .int .i64 (j : Int) ∧ (x.take (q + j)).drop q = old.take j ∧ wr.heap[hb]? = some (.cells #[.int .i64 (q : Int), .slice Ao no co, .slice An nn cn] 24 (0, 0)) ∧ Below w.heap.size w wr) (fun v _ => no - (intOf v).toNat)
        case atStart => exact ⟨0, by omega, rfl, by rw [List.take_zero, Nat.add_zero, List.drop_eq_nil_of_le (by rw [List.length_take]; omega)], HK0.out, HB0.out⟩
        case round =>
          obtain ⟨j, hj, rfl, heq, hk, hB⟩ := hrel
          clear HK0 HB0
          obtain ⟨k0, k1, k2⟩ := head_cells hk
          have kl := blk_lt hk
          have HK := Lib.hid hk
          have HB := Lib.hid hB
          have HEQ := Lib.hid heq
          clear hk hB heq
          by_cases hjn : j < no
          · have hq1 : q + j < n := by omega
            have hq2 : (q : Int) + (j : Int) < (n : Int) := by omega
            have hq3 : (0 : Int) ≤ (q : Int) + (j : Int) := by omega
            have hq4 : ((q : Int) + (j : Int)).toNat = q + j := by omega
            obtain ⟨ad, rfl, ca1⟩ := Kd.at_string (Kd.C_below HA.out HB.out) ((q + j : Nat) : Int) (by omega) (by omega)
            obtain ⟨bd, rfl, cb1⟩ := Kd.at_string (Kd.C_below HO.out HB.out) (j : Int) (by omega) (by omega)
            rw [rdOf_nat _ _ _ (by rw [HL.out.1]; exact hq1), Int.toNat_natCast] at ca1
            rw [rdOf_nat _ _ _ (by rw [HL.out.2.1]; exact hjn), Int.toNat_natCast] at cb1
            obtain ⟨xa, hxa⟩ : ∃ z, z = x[q + j]'(by rw [HL.out.1]; exact hq1) := ⟨_, rfl⟩
            obtain ⟨xb, hxb⟩ : ∃ z, z = old[j]'(by rw [HL.out.2.1]; exact hjn) := ⟨_, rfl⟩
            rw [← hxa] at ca1
            rw [← hxb] at cb1
            have HX := Lib.hid (And.intro hxa hxb)
            clear hxa hxb
            by_cases hxy : xa = xb
            · subst hxy
              have hqe : (xa.toList == xa.toList) = true := by simp
              go_wp2_with fail
              go_quiet (fail)
              go_wp2_with fail
              refine ⟨⟨j + 1, by omega, by go_num, eqUpto x old q j (by rw [HL.out.1]; exact hq1) (by rw [HL.out.2.1]; exact hjn) HEQ.out (by rw [← HX.out.1, ← HX.out.2]), HK.out, pw_below_drewN HB.out _⟩, by simp [intOf]; omega⟩
            · have hqe : (xa.toList == xb.toList) = false := by rw [beq_eq_false_iff_ne]; exact fun h => hxy ((bytes_eq _ _).1 h)
              go_wp2_with fail
              go_quiet (fail)
              go_wp2_with fail
              go_ret2
              have hR := HR.out
              rw [if_neg (by
                have := neUpto x old q j (by rw [HL.out.1, HL.out.2.1]; omega) (by rw [HL.out.2.1]; exact hjn) (by rw [← HX.out.1, ← HX.out.2]; exact hxy)
                rw [HL.out.2.1] at this
                exact this)] at hR
              subst hR
              exact ⟨_, rfl, Kd.R_nil _ _ _ _ _, pw_below_drewN HB.out _⟩
          · obtain rfl : j = no := by omega
            have hR := HR.out
            rw [if_pos (by rw [HEQ.out, List.take_of_length_le (by rw [HL.out.2.1]; exact Nat.le_refl _)])] at hR
            subst hR
            clear HR HEQ
            have hsz := HB.out.size
            have hqc : q ≤ c := by omega
            have hq0 : (0 : Int) ≤ (q : Int) + (j : Int) := by omega
            have hq5 : (q : Int) + (j : Int) ≤ (n : Int) := by omega
            have hnt : ((q : Int) + (j : Int)).toNat = q + j := by omega
            have hqn : q ≤ n := by omega
            have hxt : (x.take q).length = q := by rw [List.length_take, HL.out.1]; omega
            have hC1 := Kd.C_take (m := q) (by have := HA.out; rw [← HL.out.1] at this; exact this) (by rw [HL.out.1]; exact hqn)
            rw [hxt] at hC1
            have HC1 := Lib.hid hC1
            have HXT := Lib.hid hxt
            clear hC1 hxt
            have hB1 : Below w.heap.size w (wr.alloc (.cells #[] 9)) := HB.out.alloc hsz _
            have HB1 := Lib.hid hB1
            have hk1 : (wr.alloc (.cells #[] 9)).heap[hb]? = some (.cells #[.int .i64 (q : Int), .slice Ao j co, .slice An nn cn] 24 (0, 0)) := (heap_alloc_old wr _ kl).trans HK.out
            have HK1 := Lib.hid hk1
            clear hB1 hk1
            go_wp2_with (at_builtin; go_loud (refine Kd.R_append_rows (w0 := w) (W := wr.alloc (.cells #[] 9)) Kd.string (Rr := fun x cs => cs = [.string x]) w.heap.size rfl _ _ 22 9 (.string ⟨#[]⟩) 16 rfl Try.underlying22 infoS rfl (by decide) (by decide) (.slice (some ⟨wr.heap.size, 0, none⟩) 0 0) [] (x.take q) A q c (fun _ => True) (fun _ => False) rfl rfl (str_made wr _ hsz) (Kd.C_below HC1.out HB1.out) (fun x cs h => h) (fun _ h => h.elim) (fun _ _ => trivial) HB1.out HB1.out.size (by simp; omega) ?_))
            intro v1 w1 hR1 hB2 hg1 _
            have hk2 : w1.heap[hb]? = some (.cells #[.int .i64 (q : Int), .slice Ao j co, .slice An nn cn] 24 (0, 0)) := (hg1.block hb (blk_lt HK1.out) (Kd.R_ne (str_made wr w.heap.size hsz) HK1.out (by decide))).trans HK1.out
            obtain ⟨A1, c1, rfl, _, _, _⟩ := R_addr hR1
            obtain ⟨k0, k1, k2⟩ := head_cells hk2
            have kl2 := blk_lt hk2
            rw [HXT.out] at hR1 ⊢
            have HR1 := Lib.hid hR1
            have HB2 := Lib.hid hB2
            have HK2 := Lib.hid hk2
            clear hR1 hB2 hg1 hk2 HB1 HK1
            go_wp2_with (at_builtin; go_loud (refine Kd.R_append_rows (w0 := w) (W := w1) Kd.string (Rr := fun x cs => cs = [.string x]) w.heap.size rfl _ _ 22 9 (.string ⟨#[]⟩) 16 rfl Try.underlying22 infoS rfl (by decide) (by decide) (.slice A1 q c1) (x.take q) new An nn cn (fun _ => True) (fun _ => False) rfl rfl HR1.out (Kd.C_below HN.out HB2.out) (fun x cs h => h) (fun _ h => h.elim) (fun _ _ => trivial) HB2.out HB2.out.size (by rw [HXT.out]; omega) ?_))
            intro v2 w2 hR2 hB3 hg2 _
            have hk3 : w2.heap[hb]? = some (.cells #[.int .i64 (q : Int), .slice Ao j co, .slice An nn cn] 24 (0, 0)) := (hg2.block hb (blk_lt HK2.out) (Kd.R_ne HR1.out HK2.out (by decide))).trans HK2.out
            obtain ⟨A2, c2, rfl, _, _, _⟩ := R_addr hR2
            obtain ⟨k0, k1, k2⟩ := head_cells hk3
            have kl3 := blk_lt hk3
            have hl2 : (x.take q ++ new).length = q + nn := by rw [List.length_append, HXT.out, HL.out.2.2]
            rw [hl2] at hR2 ⊢
            have HL2 := Lib.hid hl2
            have HR2 := Lib.hid hR2
            have HB3 := Lib.hid hB3
            clear hR2 hB3 hg2 hk3 HR1 HB2 HK2 hl2
            have hC3 := Kd.C_drop (m := q + j) (c := c) (by have := HA.out; rw [← HL.out.1] at this; exact this) (by rw [HL.out.1]; omega) (by rw [HL.out.1]; exact hc)
            rw [List.length_drop, HL.out.1, show (q + j) * Kd.string.sz = q + j from Nat.mul_one _] at hC3
            have HC3 := Lib.hid hC3
            clear hC3
            go_wp2_with (at_builtin; go_loud (refine Kd.R_append_rows (w0 := w) (W := w2) Kd.string (Rr := fun x cs => cs = [.string x]) w.heap.size rfl _ _ 22 9 (.string ⟨#[]⟩) 16 rfl Try.underlying22 infoS rfl (by decide) (by decide) (.slice A2 (q + nn) c2) (x.take q ++ new) (x.drop (q + j)) (if c = q + j then A else Option.map (fun x => x.add (q + j)) A) (n - (q + j)) (c - (q + j)) (fun _ => True) (fun _ => False) rfl rfl HR2.out (Kd.C_below HC3.out HB3.out) (fun x cs h => h) (fun _ h => h.elim) (fun _ _ => trivial) HB3.out HB3.out.size (by rw [HL2.out]; omega) ?_))
            all_goals
              intro v3 w3 hR3 hB4 _ _
              have hR3' : Kd.string.R 9 w3 w.heap.size (fun _ => True) v3 (x.take q ++ new ++ x.drop (q + j)) := by simpa using hR3
              have HR3 := Lib.hid hR3'
              have HB4 := Lib.hid hB4
              clear hR3 hB4 hR3'
              go_wp2_with fail
              go_ret2
              exact ⟨_, rfl, HR3.out, HB4.out⟩
end Go.Proofs.Ytjclpepdjnffaaa
