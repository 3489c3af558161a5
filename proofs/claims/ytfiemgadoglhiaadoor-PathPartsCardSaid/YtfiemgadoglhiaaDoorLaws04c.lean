/- Chapter 04's statement PathParts: its contract. -/
import Derived.Test.YtfiemgadoglhiaaDoorLaws04b
import Derived.Laws.IdiomStrings
set_option linter.unusedVariables false
set_option linter.unusedSimpArgs false
namespace Go.Proofs.YtfiemgadoglhiaaDoor
open Go.RowKit

/-- How many slashes, plus one. -/
def deepOf (p : ByteArray) (i : Nat) : Nat := 1 + ((bl p).take i).count 47
theorem deep_next (p : ByteArray) (i : Nat) (h : i < p.size) : deepOf p (i + 1) = deepOf p i + if p[i]'h = 47 then 1 else 0 := by
  unfold deepOf
  rw [List.take_add_one, bl_get p i h]
  simp only [Option.toList_some, List.count_append, List.count_singleton]
  by_cases e : p[i]'h = 47
  · rw [if_pos e, e]
    simp
    omega
  · rw [if_neg e, if_neg (by simpa using e)]
    omega
theorem deep_all (p : ByteArray) : deepOf p p.size = (splitS (bl p)).length := by
  unfold deepOf
  rw [List.take_of_length_le (by rw [bl_size]; exact Nat.le_refl _), splitS_count]
theorem deep_le (p : ByteArray) (i : Nat) : deepOf p i ≤ p.size + 1 := by
  unfold deepOf
  have h1 := List.count_le_length (a := (47 : UInt8)) (l := (bl p).take i)
  have h2 : ((bl p).take i).length ≤ (bl p).length := by rw [List.length_take]; omega
  rw [bl_size] at h2
  omega
/-- No slash so far. -/
def oneOf (t : ByteArray) (i : Nat) : Bool := ((bl t).take i).all fun b => !(b == 47)
theorem one_next (t : ByteArray) (i : Nat) (h : i < t.size) : oneOf t (i + 1) = (oneOf t i && !(t[i]'h == 47)) := by
  unfold oneOf
  rw [List.take_add_one, bl_get t i h]
  simp
theorem one_all (t : ByteArray) (h : oneOf t t.size = true) : ∀ b ∈ bl t, b ≠ 47 := by
  unfold oneOf at h
  rw [List.take_of_length_le (by rw [bl_size]; exact Nat.le_refl _), List.all_eq_true] at h
  intro b hb e
  have := h b hb
  rw [e] at this
  simp at this
theorem right_one (t : ByteArray) (h : ∀ b ∈ bl t, b ≠ 47) : right 16 8 (bl t) = partOk 16 (bl t) := by
  unfold right
  rw [splitS_none _ h]
  simp
theorem right_more (p t : ByteArray) (hp : right 16 8 (bl p) = true) (h : ∀ b ∈ bl t, b ≠ 47) : right 16 8 (bl (p ++ ⟨#[47]⟩ ++ t)) = (right 16 8 (bl t) && decide (deepOf p p.size < 8)) := by
  rw [bl_slash, right_behind 16 8 _ _ h, right_one t h, deep_all]
  unfold right at hp
  rw [Bool.and_eq_true] at hp
  rw [hp.1, Bool.true_and]
  congr 1
theorem parent_more (p t : ByteArray) (h : ∀ b ∈ bl t, b ≠ 47) : parentV (p ++ ⟨#[47]⟩ ++ t) = .tuple #[.string p, .bool true] := by
  unfold parentV
  rw [bl_slash, parentOf_behind _ _ h]
  rfl
theorem right_tail (p : ByteArray) : right 16 8 (bl (p ++ ⟨#[47]⟩)) = false := by
  rw [bl_append]
  exact right_slash_behind 16 8 _
theorem right_head (p : ByteArray) : right 16 8 (bl (⟨#[47]⟩ ++ p)) = false := by
  rw [bl_append]
  exact right_slash_ahead 16 8 _
theorem right_odd (p : ByteArray) (c : UInt8) (h : letterN c.toNat = false) (h2 : c ≠ 47) : right 16 8 (bl (p ++ ⟨#[c]⟩)) = false := by
  rw [bl_append]
  exact right_strange 16 8 _ c h2 h
theorem bne47 (b : UInt8) : (((b.toNat : Nat) : Int) != 47) = !(b == 47) := by
  rw [Bool.eq_iff_iff]
  simp only [bne_iff_ne, ne_eq, Bool.not_eq_true', beq_eq_false_iff_ne]
  exact not_congr (toNat47 b)
theorem strange_n (p : ByteArray) (c : UInt8) (w : World) (h : letterN c.toNat = false) (h2 : c ≠ 47) (h3 : p.size ≤ 3000) : Calls Tryd.prog 14 #[.string (p ++ ⟨#[c]⟩)] w fun e w' => e = .returned (.bool false) ∧ Below w.heap.size w w' := by
  have e : (p ++ ⟨#[c]⟩ : ByteArray).size = p.size + 1 := by
    rw [← bl_size, bl_append, List.length_append, bl_size]
    rfl
  have := pright (p ++ ⟨#[c]⟩) w (by omega)
  rw [right_odd p c h h2] at this
  exact this
theorem conv_one (w : World) (c : UInt8) : (convert 30 9 (.slice (some ⟨w.heap.size, 0, none⟩) 1 1)).run Tryd.prog (w.alloc (.cells #[.int .u8 (c.toNat : Int)] 5)) = .ok (.string ⟨#[c]⟩) (w.alloc (.cells #[.int .u8 (c.toNat : Int)] 5)) := by
  have hc : (w.alloc (.cells #[.int .u8 (c.toNat : Int)] 5)).cell? ⟨w.heap.size, 0, none⟩ = some (.int .u8 (c.toNat : Int)) := Go.Proofs.YtfiemgadoglhiaaDoorW.PrintWords.blk_cell (Go.Proofs.YtfiemgadoglhiaaDoorW.PrintWords.blk_new w _) 0
  exact run_convert_bytes_back (P := Tryd.prog) (w.alloc (.cells #[.int .u8 (c.toNat : Int)] 5)) 30 9 5 ⟨w.heap.size, 0, none⟩ 1 [c] Tryd.underlying30 Tryd.underlying5 Tryd.underlying9 (fun j hj => by
    have hj0 : j = 0 := by simpa using hj
    subst hj0
    exact hc)
theorem below_then {B : Nat} {a b c : World} (h : Below B a b) (hB : B ≤ b.heap.size) (k : Below b.heap.size b c) : Below B a c := h.trans (k.mono hB)
set_option maxRecDepth 100000 in
set_option maxHeartbeats 16000000 in
theorem parts_law (w : World) (p : ByteArray) (hp : p.size ≤ 140737488351232) (t : ByteArray) (ht : t.size ≤ 140737488351232) (x : Int) (hx : (Lit.int .u8 x).wf = true) :
    Calls Tryd.prog 6 #[.string p, .string t, .int .u8 x] w fun e w' => e = .returned (.bool true) ∧ Below w.heap.size w w' := by
  have hb : 0 ≤ x ∧ x ≤ 255 := by simpa [Lit.wf, IntKind.min, IntKind.max, IntKind.signed, IntKind.bits] using hx
  obtain ⟨cx, rfl⟩ : ∃ cx : UInt8, x = (cx.toNat : Int) := ⟨UInt8.ofNat x.toNat, by rw [UInt8.toNat_ofNat']; omega⟩
  clear hx hb
  have hR := fun w => pright p w hp
  obtain ⟨c, hc⟩ : ∃ c, c = right 16 8 (bl p) := ⟨_, rfl⟩
  rw [← hc] at hR
  have HR := Lib.hid hR
  have HC := Lib.hid hc
  clear hR hc
  go_enter Tryd.func6, Tryd.ntmps6
  go_wp2_with fail
  refine (head_any w).mono ?_
  rintro e w1 ⟨rfl, hB⟩
  have HB1 := Lib.hid hB
  clear hB
  go_wp2_with fail
  obtain ⟨r, hr, hcall⟩ := great_any p t w1
  refine hcall.mono ?_
  clear hcall
  rintro e w2 ⟨rfl, hB⟩
  have HB2 := Lib.hid (HB1.out.trans (hB.mono HB1.out.size))
  clear hB
  cases r with
  | true =>
    clear hr
    go_wp2_with fail
    go_ret
    exact ⟨rfl, HB2.out⟩
  | false =>
    obtain ⟨bp, bt⟩ := hr rfl
    clear hr
    go_wp2_with fail
    refine (HR.out w2).mono ?_
    rintro e w3 ⟨rfl, hB⟩
    have HB3 := Lib.hid (HB2.out.trans (hB.mono HB2.out.size))
    clear hB
    cases c with
    | false =>
      go_wp2_with fail
      go_ret
      exact ⟨rfl, HB3.out⟩
    | true =>
      obtain ⟨np, hnp⟩ : ∃ n, n = p.size := ⟨_, rfl⟩
      obtain ⟨nt, hnt⟩ : ∃ n, n = t.size := ⟨_, rfl⟩
      have HN := Lib.hid (And.intro hnp.symm hnt.symm)
      have n1 : ¬ 9223372036854775807 < p.size + 1 := by omega
      have n2 : ¬ 9223372036854775807 < p.size + 1 + t.size := by omega
      have n3 : ¬ 9223372036854775807 < 1 + p.size := by omega
      have ns : (⟨#[47]⟩ : ByteArray).size = 1 := rfl
      go_wp2_with fail
      go_loopw [9, 10] (fun vd vi wr => ∃ i : Nat, i ≤ np ∧ vi = .int .i64 (i : Int) ∧ vd = .int .i64 (deepOf p i : Int) ∧ wr = w3) (fun _ vi _ => np - (intOf vi).toNat)
      case atStart => exact ⟨0, Nat.zero_le _, rfl, rfl, rfl⟩
      case round =>
        obtain ⟨i, hi, rfl, rfl, hw⟩ := hrel
        have hw2 := hw.symm
        clear hw
        subst hw2
        have hdl := deep_le p i
        by_cases hin : i < p.size
        · have hin1 : (i : Int) < (p.size : Int) := by omega
          have hi0 : (0 : Int) ≤ (i : Int) := by omega
          have hdn := deep_next p i hin
          by_cases h47 : p[i]'hin = 47
          · have h47' : (((p[i]'hin).toNat : Int) = 47) := (toNat47 _).2 h47
            rw [if_pos h47] at hdn
            have HD := Lib.hid hdn
            clear hdn h47
            go_wp2_with fail
            exact ⟨⟨i + 1, by omega, by go_num, by rw [HD.out]; go_num, trivial⟩, by first | (simp [intOf]; done) | (simp [intOf]; omega)⟩
          · have h47' : ¬ (((p[i]'hin).toNat : Int) = 47) := fun h => h47 ((toNat47 _).1 h)
            rw [if_neg h47] at hdn
            have HD := Lib.hid hdn
            clear hdn h47
            go_wp2_with fail
            exact ⟨⟨i + 1, by omega, by go_num, by rw [HD.out]; first | rfl | simp, trivial⟩, by first | (simp [intOf]; done) | (simp [intOf]; omega)⟩
        · obtain rfl : i = np := by omega
          have hin1 : ¬ (i : Int) < (p.size : Int) := by omega
          have HDP := Lib.hid (show deepOf p i = deepOf p p.size by rw [HN.out.1])
          obtain ⟨dp, hdp⟩ : ∃ d, d = deepOf p i := ⟨_, rfl⟩
          rw [← hdp] at hdl HDP ⊢
          clear hin1 hdp
          have hin1 : ¬ (i : Int) < (p.size : Int) := by omega
          go_wp2_with fail
          go_loopw [11, 12] (fun vo vi wr => ∃ k : Nat, k ≤ nt ∧ vi = .int .i64 (k : Int) ∧ vo = .bool (oneOf t k) ∧ wr = w3) (fun _ vi _ => nt - (intOf vi).toNat)
          case atStart => exact ⟨0, Nat.zero_le _, rfl, rfl, rfl⟩
          case round =>
            obtain ⟨k, hk, rfl, rfl, hw⟩ := hrel
            have hw2 := hw.symm
            clear hw
            subst hw2
            by_cases hkn : k < t.size
            · have hkn1 : (k : Int) < (t.size : Int) := by omega
              have hk0 : (0 : Int) ≤ (k : Int) := by omega
              have HO := Lib.hid (one_next t k hkn)
              obtain ⟨o, ho⟩ : ∃ o, o = oneOf t k := ⟨_, rfl⟩
              rw [← ho] at HO ⊢
              clear ho
              cases o with
              | false =>
                go_wp2_with fail
                exact ⟨⟨k + 1, by omega, by go_num, by rw [HO.out]; rfl, trivial⟩, by first | (simp [intOf]; done) | (simp [intOf]; omega)⟩
              | true =>
                go_wp2_with fail
                refine ⟨⟨k + 1, by omega, by go_num, ?_, trivial⟩, by first | (simp [intOf]; done) | (simp [intOf]; omega)⟩
                rw [HO.out, Bool.true_and]
                exact congrArg Value.bool (bne47 (t[k]'hkn))
            · obtain rfl : k = nt := by omega
              have hkn1 : ¬ (k : Int) < (t.size : Int) := by omega
              obtain ⟨o, ho⟩ : ∃ o, o = oneOf t k := ⟨_, rfl⟩
              have hone : o = true → ∀ b ∈ bl t, b ≠ 47 := fun h => one_all t (by rw [HN.out.2, ← ho]; exact h)
              rw [← ho]
              have HONE := Lib.hid hone
              have h1 := fun w => pright (p ++ ⟨#[47]⟩) w (by rw [← bl_size, bl_append, List.length_append, bl_size, bl_size, ns]; omega)
              have h2 := fun w => pright (⟨#[47]⟩ ++ p) w (by rw [← bl_size, bl_append, List.length_append, bl_size, bl_size, ns]; omega)
              rw [right_tail] at h1
              rw [right_head] at h2
              have HT1 := Lib.hid h1
              have HT2 := Lib.hid h2
              clear ho hone h1 h2
              cases o with
              | false =>
                go_wp2_with fail
                all_goals
                  refine (HT1.out w3).mono ?_
                  rintro e w4 ⟨rfl, hB⟩
                  have HB4 := Lib.hid (HB3.out.trans (hB.mono HB3.out.size))
                  clear hB
                  go_wp2_with fail
                all_goals
                  refine (HT2.out w4).mono ?_
                  rintro e w5 ⟨rfl, hB⟩
                  have HB5 := Lib.hid (HB4.out.trans (hB.mono HB4.out.size))
                  clear hB
                  go_wp2_with fail
                all_goals (try simp only [bne_eq_false_iff_eq] at *)
                all_goals first
                  | (go_ret; exact ⟨by simp, HB5.out⟩)
                  | (rw [conv_one]
                     simp only [Result.andThen]
                     rw [Oper.upon_value]
                     go_wp2_with fail
                     refine (strange_n p cx _ (by unfold letterN; exact decide_eq_false (by omega)) (by intro e; have := (toNat47 cx).2 e; omega) (by omega)).mono ?_
                     rintro e wz ⟨rfl, hB⟩
                     have HBz := Lib.hid (below_then (HB5.out.alloc HB5.out.size _) (HB5.out.alloc HB5.out.size _).size hB)
                     clear hB
                     go_wp2_with fail
                     go_ret
                     exact ⟨by simp, HBz.out⟩)
              | true =>
                have hno := HONE.out (by trivial)
                have hq := fun w => pright (p ++ ⟨#[47]⟩ ++ t) w (by rw [slash_size]; omega)
                have hpq := fun w => pparent (p ++ ⟨#[47]⟩ ++ t) w (by rw [slash_size]; omega)
                have hpt := fun w => pright t w ht
                rw [right_more p t HC.out.symm hno, ← HDP.out] at hq
                rw [parent_more p t hno] at hpq
                obtain ⟨A, hA⟩ : ∃ A, A = right 16 8 (bl t) := ⟨_, rfl⟩
                rw [← hA] at hq hpt
                have HQ := Lib.hid hq
                have HPQ := Lib.hid hpq
                have HPT := Lib.hid hpt
                clear hno hq hpq hpt hA HONE
                by_cases hd : dp < 8
                · have hd' : (dp : Int) < 8 := by omega
                  rw [decide_eq_true hd] at HQ
                  cases A with
                  | false =>
                    rw [show (false && true) = false from rfl] at HQ
                    go_wp2_with fail
                    refine (HQ.out w3).mono ?_
                    rintro e w4 ⟨rfl, hB⟩
                    have HB4 := Lib.hid (HB3.out.trans (hB.mono HB3.out.size))
                    clear hB
                    go_wp2_with fail
                    refine (HPT.out w4).mono ?_
                    rintro e w5 ⟨rfl, hB⟩
                    have HB5 := Lib.hid (HB4.out.trans (hB.mono HB4.out.size))
                    clear hB
                    go_wp2_with fail
                    refine (HPQ.out w5).mono ?_
                    rintro e w6 ⟨rfl, hB⟩
                    have HB6 := Lib.hid (HB5.out.trans (hB.mono HB5.out.size))
                    clear hB
                    go_wp2_with fail
                    all_goals
                      refine (HT1.out w6).mono ?_
                      rintro e w7 ⟨rfl, hB⟩
                      have HB7 := Lib.hid (HB6.out.trans (hB.mono HB6.out.size))
                      clear hB
                      go_wp2_with fail
                    all_goals
                      refine (HT2.out w7).mono ?_
                      rintro e w8 ⟨rfl, hB⟩
                      have HB8 := Lib.hid (HB7.out.trans (hB.mono HB7.out.size))
                      clear hB
                      go_wp2_with fail
                    all_goals (try simp only [bne_eq_false_iff_eq] at *)
                    all_goals first
                      | (go_ret; exact ⟨by simp, HB8.out⟩)
                      | (rw [conv_one]
                         simp only [Result.andThen]
                         rw [Oper.upon_value]
                         go_wp2_with fail
                         refine (strange_n p cx _ (by unfold letterN; exact decide_eq_false (by omega)) (by intro e; have := (toNat47 cx).2 e; omega) (by omega)).mono ?_
                         rintro e wz ⟨rfl, hB⟩
                         have HBz := Lib.hid (below_then (HB8.out.alloc HB8.out.size _) (HB8.out.alloc HB8.out.size _).size hB)
                         clear hB
                         go_wp2_with fail
                         go_ret
                         exact ⟨by simp, HBz.out⟩)
                  | true =>
                    rw [show (true && true) = true from rfl] at HQ
                    go_wp2_with fail
                    refine (HQ.out w3).mono ?_
                    rintro e w4 ⟨rfl, hB⟩
                    have HB4 := Lib.hid (HB3.out.trans (hB.mono HB3.out.size))
                    clear hB
                    go_wp2_with fail
                    refine (HPT.out w4).mono ?_
                    rintro e w5 ⟨rfl, hB⟩
                    have HB5 := Lib.hid (HB4.out.trans (hB.mono HB4.out.size))
                    clear hB
                    go_wp2_with fail
                    refine (HPQ.out w5).mono ?_
                    rintro e w6 ⟨rfl, hB⟩
                    have HB6 := Lib.hid (HB5.out.trans (hB.mono HB5.out.size))
                    clear hB
                    go_wp2_with fail
                    all_goals
                      refine (HT1.out w6).mono ?_
                      rintro e w7 ⟨rfl, hB⟩
                      have HB7 := Lib.hid (HB6.out.trans (hB.mono HB6.out.size))
                      clear hB
                      go_wp2_with fail
                    all_goals
                      refine (HT2.out w7).mono ?_
                      rintro e w8 ⟨rfl, hB⟩
                      have HB8 := Lib.hid (HB7.out.trans (hB.mono HB7.out.size))
                      clear hB
                      go_wp2_with fail
                    all_goals (try simp only [bne_eq_false_iff_eq] at *)
                    all_goals first
                      | (go_ret; exact ⟨by simp, HB8.out⟩)
                      | (rw [conv_one]
                         simp only [Result.andThen]
                         rw [Oper.upon_value]
                         go_wp2_with fail
                         refine (strange_n p cx _ (by unfold letterN; exact decide_eq_false (by omega)) (by intro e; have := (toNat47 cx).2 e; omega) (by omega)).mono ?_
                         rintro e wz ⟨rfl, hB⟩
                         have HBz := Lib.hid (below_then (HB8.out.alloc HB8.out.size _) (HB8.out.alloc HB8.out.size _).size hB)
                         clear hB
                         go_wp2_with fail
                         go_ret
                         exact ⟨by simp, HBz.out⟩)
                · have hd' : ¬ (dp : Int) < 8 := by omega
                  rw [decide_eq_false hd] at HQ
                  cases A with
                  | false =>
                    rw [show (false && false) = false from rfl] at HQ
                    go_wp2_with fail
                    refine (HQ.out w3).mono ?_
                    rintro e w4 ⟨rfl, hB⟩
                    have HB4 := Lib.hid (HB3.out.trans (hB.mono HB3.out.size))
                    clear hB
                    go_wp2_with fail
                    refine (HPT.out w4).mono ?_
                    rintro e w5 ⟨rfl, hB⟩
                    have HB5 := Lib.hid (HB4.out.trans (hB.mono HB4.out.size))
                    clear hB
                    go_wp2_with fail
                    refine (HPQ.out w5).mono ?_
                    rintro e w6 ⟨rfl, hB⟩
                    have HB6 := Lib.hid (HB5.out.trans (hB.mono HB5.out.size))
                    clear hB
                    go_wp2_with fail
                    all_goals
                      refine (HT1.out w6).mono ?_
                      rintro e w7 ⟨rfl, hB⟩
                      have HB7 := Lib.hid (HB6.out.trans (hB.mono HB6.out.size))
                      clear hB
                      go_wp2_with fail
                    all_goals
                      refine (HT2.out w7).mono ?_
                      rintro e w8 ⟨rfl, hB⟩
                      have HB8 := Lib.hid (HB7.out.trans (hB.mono HB7.out.size))
                      clear hB
                      go_wp2_with fail
                    all_goals (try simp only [bne_eq_false_iff_eq] at *)
                    all_goals first
                      | (go_ret; exact ⟨by simp, HB8.out⟩)
                      | (rw [conv_one]
                         simp only [Result.andThen]
                         rw [Oper.upon_value]
                         go_wp2_with fail
                         refine (strange_n p cx _ (by unfold letterN; exact decide_eq_false (by omega)) (by intro e; have := (toNat47 cx).2 e; omega) (by omega)).mono ?_
                         rintro e wz ⟨rfl, hB⟩
                         have HBz := Lib.hid (below_then (HB8.out.alloc HB8.out.size _) (HB8.out.alloc HB8.out.size _).size hB)
                         clear hB
                         go_wp2_with fail
                         go_ret
                         exact ⟨by simp, HBz.out⟩)
                  | true =>
                    rw [show (true && false) = false from rfl] at HQ
                    go_wp2_with fail
                    refine (HQ.out w3).mono ?_
                    rintro e w4 ⟨rfl, hB⟩
                    have HB4 := Lib.hid (HB3.out.trans (hB.mono HB3.out.size))
                    clear hB
                    go_wp2_with fail
                    refine (HPT.out w4).mono ?_
                    rintro e w5 ⟨rfl, hB⟩
                    have HB5 := Lib.hid (HB4.out.trans (hB.mono HB4.out.size))
                    clear hB
                    go_wp2_with fail
                    refine (HPQ.out w5).mono ?_
                    rintro e w6 ⟨rfl, hB⟩
                    have HB6 := Lib.hid (HB5.out.trans (hB.mono HB5.out.size))
                    clear hB
                    go_wp2_with fail
                    all_goals
                      refine (HT1.out w6).mono ?_
                      rintro e w7 ⟨rfl, hB⟩
                      have HB7 := Lib.hid (HB6.out.trans (hB.mono HB6.out.size))
                      clear hB
                      go_wp2_with fail
                    all_goals
                      refine (HT2.out w7).mono ?_
                      rintro e w8 ⟨rfl, hB⟩
                      have HB8 := Lib.hid (HB7.out.trans (hB.mono HB7.out.size))
                      clear hB
                      go_wp2_with fail
                    all_goals (try simp only [bne_eq_false_iff_eq] at *)
                    all_goals first
                      | (go_ret; exact ⟨by simp, HB8.out⟩)
                      | (rw [conv_one]
                         simp only [Result.andThen]
                         rw [Oper.upon_value]
                         go_wp2_with fail
                         refine (strange_n p cx _ (by unfold letterN; exact decide_eq_false (by omega)) (by intro e; have := (toNat47 cx).2 e; omega) (by omega)).mono ?_
                         rintro e wz ⟨rfl, hB⟩
                         have HBz := Lib.hid (below_then (HB8.out.alloc HB8.out.size _) (HB8.out.alloc HB8.out.size _).size hB)
                         clear hB
                         go_wp2_with fail
                         go_ret
                         exact ⟨by simp, HBz.out⟩)
end Go.Proofs.YtfiemgadoglhiaaDoor
