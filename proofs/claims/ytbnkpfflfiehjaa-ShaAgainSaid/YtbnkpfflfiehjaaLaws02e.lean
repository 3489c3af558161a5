/- ShaAgain's contract: a sum is the same whenever it is asked; a name's digits are those of the sum. -/
import Derived.Test.YtbnkpfflfiehjaaLaws02f
set_option linter.unusedVariables false
set_option linter.unusedSimpArgs false
namespace Go.Proofs.Ytbnkpfflfiehjaa
open Go.RowKit Go.Proofs.YtbnkpfflfiehjaaW.PrintWords Go.Proofs.YtbnkpfflfiehjaaW.PrintLast

/-- The half byte at place i. -/
def nib (S : List (BitVec 8)) (i : Nat) : Nat := if i % 2 = 0 then (S.getD (i / 2) 0).toNat / 16 else (S.getD (i / 2) 0).toNat % 16
theorem nib_lt (S : List (BitVec 8)) (i : Nat) : nib S i < 16 := by
  unfold nib
  have := (S.getD (i / 2) 0).isLt
  split <;> omega
theorem hexL_at : ∀ (S : List (BitVec 8)) (i : Nat), i < 2 * S.length → (hexL S)[i]? = some (dig (nib S i))
  | [], i, h => by simp at h
  | x :: xs, 0, _ => rfl
  | x :: xs, 1, _ => rfl
  | x :: xs, i + 2, h => by
    have ih := hexL_at xs i (by simp at h; omega)
    have e : nib (x :: xs) (i + 2) = nib xs i := by
      unfold nib
      rw [show (i + 2) % 2 = i % 2 by omega, show (i + 2) / 2 = i / 2 + 1 by omega]
      rfl
    rw [e, ← ih]
    rfl
theorem dig_val (v : Nat) (h : v < 16) : (dig v).toNat = if v < 10 then 48 + v else 87 + v := by
  have : ∀ v : Fin 16, (dig v.val).toNat = if v.val < 10 then 48 + v.val else 87 + v.val := by decide
  exact this ⟨v, h⟩
theorem shr_and (n i : Nat) (h : n < 256) : bits .and .u8 ((n : Int) / 2 ^ (4 - 4 * (i % 2))) 15 = ((if i % 2 = 0 then n / 16 else n % 16 : Nat) : Int) := by
  rcases Nat.mod_two_eq_zero_or_one i with e | e
  · rw [e, if_pos rfl]
    have := and15 (n / 16) (by omega)
    rw [show ((n : Int) / 2 ^ (4 - 4 * 0)) = ((n / 16 : Nat) : Int) by simp]
    rw [this]
    congr 1
    omega
  · rw [e, if_neg (by decide)]
    have := and15 n h
    rw [show ((n : Int) / 2 ^ (4 - 4 * 1)) = (n : Int) by simp]
    exact this

set_option maxRecDepth 100000 in
set_option maxHeartbeats 8000000 in
theorem again_law (w : World) (x : List Int) (A : Option Addr) (n0 c : Nat) (h : (Kd.slice 5 (Kd.int .u8)).K w x [.slice A n0 c]) (g : goodB x)
    (y : List Int) (B : Option Addr) (m0 d : Nat) (h2 : (Kd.slice 5 (Kd.int .u8)).K w y [.slice B m0 d]) (g2 : goodB y) :
    Calls Try.prog 5 #[.slice A n0 c, .slice B m0 d] w fun e w' => e = .returned (.bool true) ∧ Below w.heap.size w w' := by
  obtain ⟨A', c', e, l, hr⟩ := h
  obtain ⟨rfl, rfl, rfl⟩ : A = A' ∧ n0 = x.length ∧ c = c' := by injection e with e _; injection e with a b c; exact ⟨a, b, c⟩
  obtain ⟨B', d', e2, l2, hr2⟩ := h2
  obtain ⟨rfl, rfl, rfl⟩ : B = B' ∧ m0 = y.length ∧ d = d' := by injection e2 with e _; injection e with a b c; exact ⟨a, b, c⟩
  obtain ⟨bs, rfl⟩ := bytes_of x g.2
  obtain ⟨cs, rfl⟩ := bytes_of y g2.2
  rw [List.length_map] at l hr l2 hr2 ⊢
  rw [List.length_map]
  have HC := Lib.hid hr
  have HD := Lib.hid hr2
  clear e hr g e2 hr2 g2
  by_cases h1 : 20000 < bs.length
  · have d1 : (bs.length : Int) > 20000 := by omega
    go_enter Try.func5, Try.ntmps5
    go_wp2_with fail
    refine (head_any w).mono ?_
    rintro e w1 ⟨rfl, hB⟩
    have HB := Lib.hid hB
    clear hB
    go_wp2_with fail
    go_ret
    exact ⟨rfl, HB.out⟩
  by_cases h3 : 20000 < cs.length
  · have d1 : ¬ (bs.length : Int) > 20000 := by omega
    have d2 : (cs.length : Int) > 20000 := by omega
    go_enter Try.func5, Try.ntmps5
    go_wp2_with fail
    refine (head_any w).mono ?_
    rintro e w1 ⟨rfl, hB⟩
    have HB := Lib.hid hB
    clear hB
    go_wp2_with fail
    go_ret
    exact ⟨rfl, HB.out⟩
  have d1 : ¬ (bs.length : Int) > 20000 := by omega
  have d2 : ¬ (cs.length : Int) > 20000 := by omega
  obtain ⟨X, hX⟩ : ∃ X, X = name bs := ⟨_, rfl⟩
  have hXs : X.size = 64 := by rw [hX]; exact name_size bs
  have hXN : named X = true := by rw [hX]; exact named_name bs
  obtain ⟨S, hS⟩ : ∃ S, S = sum bs := ⟨_, rfl⟩
  have hSl : S.length = 32 := by rw [hS]; exact sum_len _
  have hXat : ∀ (i : Nat) (hi : i < X.size), ((X[i]'hi).toNat = if nib S i < 10 then 48 + nib S i else 87 + nib S i) := by
    intro i hi
    have h1 := hexL_at S i (by omega)
    have h2 : (hexL S)[i]? = some (X[i]'hi) := by
      rw [hS, ← name_list, ← hX]
      show X.data.toList[i]? = some (X.data[i]'hi)
      simp
    rw [h2] at h1
    rw [Option.some.inj h1]
    exact dig_val _ (nib_lt _ _)
  have HX := Lib.hid hX
  have HXN := Lib.hid hXN
  have HXS := Lib.hid hXs
  have HXA := Lib.hid hXat
  have HS := Lib.hid hS
  have HSL := Lib.hid hSl
  have hXs1 : (X.size : Int) = 64 := by omega
  clear hX hXN hXs hXat hS
  go_enter Try.func5, Try.ntmps5
  go_wp2_with fail
  refine (head_any w).mono ?_
  rintro e w1 ⟨rfl, hB⟩
  have HB := Lib.hid hB
  clear hB
  go_wp2_with fail
  refine (sum_any c A bs w1 (Kd.C_below HC.out HB.out) l (by omega)).mono ?_
  rw [← HS.out]
  rintro e w2 ⟨rfl, hB⟩
  have HB2 := Lib.hid (below_then HB.out HB.out.size hB)
  clear hB
  go_wp2_with (refine wpList_store_row rfl (.tmp 6) (.tmp 24) 24 rfl w2.heap.size rfl (bcells S) rfl 24 (bcells (List.replicate 32 0#8)) (blk_new w2 _) (by rw [bcells_size, HSL.out]; rfl) (by rw [bcells_size, bcells_size, HSL.out]; rfl) (bcells_one _) rfl ?_)
  have ht3 : BAt ((w2.alloc (.cells (bcells (List.replicate 32 0#8)) 24)).setRow w2.heap.size (bcells S)) w2.heap.size 24 S := setRow_heap _ _ (bcells (List.replicate 32 0#8)) _ _ _ (blk_new w2 _)
  have hB3 : Below w2.heap.size w2 ((w2.alloc (.cells (bcells (List.replicate 32 0#8)) 24)).setRow w2.heap.size (bcells S)) := below_setRow ((Below.refl _ _).alloc (Nat.le_refl _) _) (Nat.le_refl _) _
  have hB3' := HB2.out.trans (hB3.mono HB2.out.size)
  refine (sum_any d B cs ((w2.alloc (.cells (bcells (List.replicate 32 0#8)) 24)).setRow w2.heap.size (bcells S)) (Kd.C_below HD.out hB3') l2 (by omega)).mono ?_
  rintro e w4 ⟨rfl, hB⟩
  have ht4 := ht3.below' ht3.lt hB
  have htl := ht4.lt
  have HT4 := Lib.hid ht4
  have HB4 := Lib.hid (below_then hB3' hB3'.size hB)
  clear ht3 hB3 hB3' hB ht4
  generalize w2.heap.size = tb at *
  go_wp2_with (at_builtin; refine Kd.R_append_rows (w0 := w4) (Kd.int .u8) (Rr := fun x cs => cs = [.int .u8 x]) w4.heap.size rfl _ _ 22 5 (.int .u8 0) 1 rfl Try.underlying22 infoU8 rfl (by decide) (by decide) (.slice (some ⟨w4.heap.size, 0, none⟩) 0 0) [] (bs.map byt) A bs.length c (fun _ => True) (fun _ => False) rfl rfl ?ho ?hr (fun x cs h => h) (fun _ h => h.elim) (fun _ _ => trivial) ?hb ?hbase ?hl ?hk)
  case ho => exact Kd.R_of_own (World.ownsRow_made (base := w4.heap.size) (e := 5) (size := 1) w4 #[] 0 (by simp) (by decide) rfl) (fun _ _ => trivial)
  case hr => exact Kd.C_below HC.out (HB4.out.trans (((Below.refl _ _).alloc (Nat.le_refl _) _).mono HB4.out.size))
  case hb => exact (Below.refl _ _).alloc (Nat.le_refl _) _
  case hbase => simp
  case hl => simp; omega
  intro v5 w5 hR5 hB5 hg5 hat5
  obtain ⟨A5, c5, rfl, hc5, hC5, _⟩ := R_addr hR5
  simp only [List.nil_append, List.length_map] at hc5 hC5 ⊢
  have HC5 := Lib.hid hC5
  have HT5 := Lib.hid (HT4.out.below' htl hB5)
  have HB5 := Lib.hid (below_then HB4.out HB4.out.size hB5)
  have htl5 := HT5.out.lt
  clear hR5 hB5 hg5 hat5 hC5 HT4
  go_wp2_with fail
  refine (sum_n bs.length c5 A5 bs w5 rfl HC5.out hc5 (by omega)).mono ?_
  rw [← HS.out]
  rintro e w6 ⟨rfl, hB⟩
  have HT6 := Lib.hid (HT5.out.below' htl5 hB)
  have HB6 := Lib.hid (below_then HB5.out HB5.out.size hB)
  have htl6 := HT6.out.lt
  clear hB HT5
  go_wp2_with (refine wpList_store_row rfl (.tmp 8) (.tmp 31) 24 rfl w6.heap.size rfl (bcells S) rfl 24 (bcells (List.replicate 32 0#8)) (blk_new w6 _) (by rw [bcells_size, HSL.out]; rfl) (by rw [bcells_size, bcells_size, HSL.out]; rfl) (bcells_one _) rfl ?_)
  have hd7 : BAt ((w6.alloc (.cells (bcells (List.replicate 32 0#8)) 24)).setRow w6.heap.size (bcells S)) w6.heap.size 24 S := setRow_heap _ _ (bcells (List.replicate 32 0#8)) _ _ _ (blk_new w6 _)
  have hB7 : Below w6.heap.size w6 ((w6.alloc (.cells (bcells (List.replicate 32 0#8)) 24)).setRow w6.heap.size (bcells S)) := below_setRow ((Below.refl _ _).alloc (Nat.le_refl _) _) (Nat.le_refl _) _
  have hB7' := HB6.out.trans (hB7.mono HB6.out.size)
  have ht7 := HT6.out.below' htl6 hB7
  refine (name_any c A bs ((w6.alloc (.cells (bcells (List.replicate 32 0#8)) 24)).setRow w6.heap.size (bcells S)) (Kd.C_below HC.out hB7') l (by omega)).mono ?_
  rw [← HX.out]
  rintro e w8 ⟨rfl, hB⟩
  have hd8 := hd7.below' hd7.lt hB
  have ht8 := ht7.below' ht7.lt hB
  have htl8 := ht8.lt
  have hdl8 := hd8.lt
  have HT8 := Lib.hid ht8
  have HD8 := Lib.hid hd8
  have HB8 := Lib.hid (below_then hB7' hB7'.size hB)
  clear hd7 hB7 hB7' ht7 hB hd8 ht8 HT6
  generalize w6.heap.size = db at *
  go_wp2_with (first
    | refine wpList_load_row rfl (.tmp 6) 24 rfl tb rfl 24 (bcells S) (0, 0) _ HT8.out (by rfl) rfl (by rw [bcells_size, HSL.out]; rfl) ?_
    | refine wpList_load_row rfl (.tmp 8) 24 rfl db rfl 24 (bcells S) (0, 0) _ HD8.out (by rfl) rfl (by rw [bcells_size, HSL.out]; rfl) ?_)
  rw [eq_sums S S HSL.out HSL.out, decide_eq_true rfl]
  simp only [Result.andThen]
  rw [Oper.upon_value]
  go_wp2_with fail
  refine (named_any X _).mono ?_
  rw [HXN.out]
  rintro e w9 ⟨rfl, hB⟩
  have HT9 := Lib.hid (HT8.out.below' htl8 hB)
  have HB9 := Lib.hid (below_then HB8.out HB8.out.size hB)
  clear hB HT8 HD8
  go_wp2_with fail
  go_loopw [10] (fun v wr => ∃ i : Nat, i ≤ 64 ∧ v = .int .i64 i ∧ BAt wr tb 24 S ∧ Below w.heap.size w wr) (fun v _ => 64 - (intOf v).toNat)
  case atStart => exact ⟨0, by omega, rfl, HT9.out, HB9.out⟩
  case round =>
    obtain ⟨i, hi, rfl, hT, hB⟩ := hrel
    clear HT9 HB9
    have HT := Lib.hid hT
    have HB := Lib.hid hB
    by_cases hi64 : i < 64
    · have d3 : (i : Int) < 64 := by omega
      have hsl := HSL.out
      have g0 := (hT.get (i / 2) (by omega)).1
      have g1 := hT.lt
      obtain ⟨n, hn, hn256⟩ : ∃ n : Nat, n = (S.getD (i / 2) 0).toNat ∧ n < 256 := ⟨_, rfl, (S.getD (i / 2) 0).isLt⟩
      rw [show byt (S.getD (i / 2) 0) = (n : Int) by rw [hn]; rfl] at g0
      have hiX : i < X.size := by omega
      obtain ⟨v, hv16, hve⟩ : ∃ v, v < 16 ∧ v = nib S i := ⟨_, nib_lt _ _, rfl⟩
      have hxa := HXA.out i hiX
      rw [← hve] at hxa
      obtain ⟨xv, hxv⟩ : ∃ xv : Nat, xv = (X[i]'hiX).toNat := ⟨_, rfl⟩
      rw [← hxv] at hxa
      have HNV := Lib.hid (show (if i % 2 = 0 then n / 16 else n % 16) = v by rw [hve, nib, hn])
      have HXV := Lib.hid hxv
      clear hT hB hve hxv hn hsl
      go_upto_region 15 with (fail)
      rw [shr_and n i hn256, HNV.out]
      have hi65 : (i : Int) < (X.size : Int) := by omega
      by_cases hv10 : v < 10
      · have hx : (X[i]'hiX).toNat = 48 + v := by rw [← HXV.out, hxa, if_pos hv10]
        have hxi : (((X[i]'hiX).toNat : Nat) : Int) = 48 + (v : Int) := by omega
        have hw : IntKind.u8.wrap (((X[i]'hiX).toNat : Int) - 48) = (v : Int) := by
          rw [hxi]
          simp only [IntKind.wrap, IntKind.bits, IntKind.signed]
          simp
          omega
        have h97 : ¬ (97 : Int) ≤ ((X[i]'hiX).toNat : Int) := by omega
        clear hx hxi hxa
        go_wp2_with fail
        exact ⟨⟨i + 1, by omega, by go_num, HT.out, HB.out⟩, by simp [intOf]; omega⟩
      · have hx : (X[i]'hiX).toNat = 87 + v := by rw [← HXV.out, hxa, if_neg hv10]
        have hxi : (((X[i]'hiX).toNat : Nat) : Int) = 87 + (v : Int) := by omega
        have h97 : (97 : Int) ≤ ((X[i]'hiX).toNat : Int) := by omega
        clear hx hxa
        go_wp2_with fail
        exact ⟨⟨i + 1, by omega, by go_num, HT.out, HB.out⟩, by simp [intOf]; omega⟩
    · obtain rfl : i = 64 := by omega
      clear hT hB
      go_wp2_with fail
      go_ret
      exact ⟨rfl, HB.out⟩
end Go.Proofs.Ytbnkpfflfiehjaa
