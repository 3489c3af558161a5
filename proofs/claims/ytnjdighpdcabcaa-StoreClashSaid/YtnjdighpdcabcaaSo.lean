/- The walk of the reference's Sum. -/
import Derived.Test.YtnjdighpdcabcaaSr
import Derived.Test.YtnjdighpdcabcaaDa
import Derived.Test.YtnjdighpdcabcaaSc
set_option linter.unusedVariables false
set_option linter.unusedSimpArgs false
namespace Go.Proofs.Ytnjdighpdcabcaa
open Go.RowKit Go.Proofs.YtnjdighpdcabcaaW.PrintWords Go.Proofs.YtnjdighpdcabcaaW.PrintLast
open Go.Proofs.Ytnjdighpdcabcaa.PStoreClash

set_option maxRecDepth 100000 in
set_option maxHeartbeats 8000000 in
theorem sum_ref (cp : Nat) (A : Option Addr) (bs : List (BitVec 8)) (w : World)
    (hb : Kd.C (Kd.int .u8) w A bs.length (bs.map byt)) (hc : bs.length ≤ cp) (hl : bs.length < 1000000000) :
    Calls Try.prog 38 #[.slice A bs.length cp] w fun e w' =>
      e = .returned (.agg (bcells (sum bs))) ∧ Below w.heap.size w w' := by
  have HC := Lib.hid hb
  clear hb
  obtain ⟨K, hKe⟩ : ∃ K, K = wcells K64 := ⟨_, rfl⟩
  have HKE := Lib.hid hKe
  go_enter Try.func38, Try.ntmps38
  go_wp2_with fail
  refine (constants_any _).mono ?_
  rintro e w1 ⟨rfl, hB⟩
  rw [← hKe]
  clear hKe
  have HB := Lib.hid hB
  clear hB
  go_wp2_with (refine wpList_store_row rfl (.tmp 3) (.tmp 17) 85 rfl w1.heap.size rfl K rfl 85 (wcells (List.replicate 64 0#32)) (blk_new w1 _) (by rw [HKE.out]; rfl) (by rw [HKE.out]; rfl) (by rw [HKE.out]; exact wcells_one _) rfl ?_)
  have hB1 : Below w.heap.size w w1 := ((Below.refl _ _).alloc (Nat.le_refl _) _).trans (HB.out.mono (by simp))
  have hr1 : BAt w1 w.heap.size 63 (List.replicate 32 0#8) := (HB.out.block _ (by simp)).trans (blk_new w _)
  obtain ⟨w2, hw2⟩ : ∃ w2, w2 = (w1.alloc (.cells (wcells (List.replicate 64 0#32)) 85)).setRow w1.heap.size K := ⟨_, rfl⟩
  have hB2 : Below w1.heap.size w1 w2 := by rw [hw2]; exact below_setRow ((Below.refl _ _).alloc (Nat.le_refl _) _) (Nat.le_refl _) _
  have hk2 : ArrAt w2 w1.heap.size 85 K64 := by rw [hw2, HKE.out]; exact setRow_heap _ _ (wcells (List.replicate 64 0#32)) _ _ _ (blk_new w1 _)
  have hs2 : w1.heap.size < w2.heap.size := hk2.lt
  have hz2 : w2.heap.size = w1.heap.size + 1 := by rw [hw2]; simp
  have hs3 : Below w2.heap.size w2 (w2.alloc (.cells (wcells IV) 87)) := (Below.refl _ _).alloc (Nat.le_refl _) _
  have hv3 : ArrAt (w2.alloc (.cells (wcells IV) 87)) w2.heap.size 87 IV := blk_new w2 _
  have hk3 := hk2.below' hs2 hs3
  have hr3 := (hr1.below' hr1.lt hB2).below' (Nat.lt_trans hr1.lt hs2) hs3
  have hB3 : Below w.heap.size w (w2.alloc (.cells (wcells IV) 87)) := (hB1.trans (hB2.mono hB1.size)).trans (hs3.mono (Nat.le_trans hB1.size hB2.size))
  have hrk : w.heap.size < w1.heap.size := hr1.lt
  have hkv : w1.heap.size < w2.heap.size := hs2
  obtain ⟨w3, hw3⟩ : ∃ w3, w3 = w2.alloc (.cells (wcells IV) 87) := ⟨_, rfl⟩
  rw [← hw3] at hs3 hv3 hk3 hr3 hB3
  have hg3 : ∀ {P args Q}, Calls P 54 args w3 Q → Calls P 54 args ((((w1.alloc (.cells (wcells (List.replicate 64 0#32)) 85)).setRow w1.heap.size K).alloc (.cells (wcells IV) 87))) Q := by
    intro P args Q h
    rw [hw3, hw2] at h
    exact h
  refine hg3 ((padded_any cp A bs w3 (Kd.C_below HC.out hB3) hc hl).mono ?_)
  rw [← hz2]
  have hvb := hv3.lt
  have HK := Lib.hid hk3
  have HV := Lib.hid hv3
  have HR := Lib.hid hr3
  have HB3 := Lib.hid hB3
  clear hg3 hw3 hs3 hv3 hk3 hr3 hB3 hw2 hz2 hs2 hk2 hB2 hr1 hB1 HB
  rintro e w4 ⟨A2, c2, rfl, hc2, hC2, hA2, hB4⟩
  generalize hkb : w1.heap.size = kb at *
  generalize hvb2 : w2.heap.size = vb at *
  generalize hrb : w.heap.size = rb at *
  have HRB := Lib.hid hrb
  obtain ⟨pl, hpl⟩ : ∃ pl, pl = (pad bs).length := ⟨_, rfl⟩
  have hpm : pl % 64 = 0 ∧ pl < 2000000000 := by
    rw [hpl, pad_length]
    unfold zeros
    omega
  rw [← hpl] at hc2 hC2 ⊢
  have HPL := Lib.hid hpl
  have HK4 := Lib.hid (HK.out.below' (by omega) hB4)
  have HV4 := Lib.hid (HV.out.below' hvb hB4)
  have HR4 := Lib.hid (HR.out.below' (by omega) hB4)
  have HB4 := Lib.hid (HB3.out.trans (hB4.mono (by have := HB3.out.size; rw [hrb] at this; exact this)))
  have HC4 := Lib.hid hC2
  have HA2 := Lib.hid (show ∀ ad, A2 = some ad → 0 < pl → ad.block ≠ vb from fun ad e _ => by have := hA2 ad e; omega)
  obtain ⟨hpm, hpz⟩ := hpm
  clear HK HV HR HB3 hB4 hC2 hpl hrb hkb hvb2 hA2 hvb
  go_wp2_with fail
  go_loopw [6] (fun v wr => ∃ q : Nat, 64 * q ≤ pl ∧ v = .int .i64 ((64 * q : Nat) : Int) ∧ ArrAt wr vb 87 (absorb (pad bs) q) ∧ ArrAt wr kb 85 K64 ∧ BAt wr rb 63 (List.replicate 32 0#8) ∧ Kd.C (Kd.int .u8) wr A2 pl ((pad bs).map byt) ∧ Below rb w wr) (fun v _ => pl - (intOf v).toNat)
  case atStart => exact ⟨0, by omega, rfl, HV4.out, HK4.out, HR4.out, HC4.out, HB4.out⟩
  case round =>
    obtain ⟨q, hq, rfl, hv, hk, hr, hC, hB⟩ := hrel
    clear HV4 HK4 HR4 HC4 HB4
    have HV := Lib.hid hv
    have HK := Lib.hid hk
    have HR := Lib.hid hr
    have HC2 := Lib.hid hC
    have HB := Lib.hid hB
    have lv := hv.lt
    have lk := hk.lt
    have lr := hr.lt
    clear hv hk hr hC hB
    by_cases hqp : 64 * q < pl
    · have hq2 : 64 * q + 64 ≤ pl := by omega
      obtain ⟨qa, hqa⟩ : ∃ qa, qa = 64 * q := ⟨_, rfl⟩
      have HQA := Lib.hid hqa
      rw [← hqa] at hqp hq2 hq ⊢
      have hq3 : (qa : Int) < (pl : Int) := by omega
      have hq4 : (qa : Int) + 64 ≤ (pl : Int) := by omega
      clear hqa
      go_wp2_with fail
      have hchl : (chunk (pad bs) q).length = 64 := chunk_length _ _ (by have := HQA.out; have := HPL.out; omega)
      have hch : Kd.C (Kd.int .u8) wr (A2.map (fun x => x.add qa)) 64 ((chunk (pad bs) q).map byt) := by
        have h := HC2.out
        rw [HPL.out] at h
        have h2 := C_rest (m := qa) (c := c2) h (by have := HPL.out; omega) (by have := HPL.out; omega)
        rw [if_neg (by omega)] at h2
        have h3 := C_first (m := 64) h2 (by have := HPL.out; simp; omega)
        rw [HQA.out] at h3 ⊢
        exact h3
      obtain ⟨T, hT⟩ : ∃ T, T = sched (chunk (pad bs) q) 64 := ⟨_, rfl⟩
      have hTl : T.length = 64 := by rw [hT, sched_length]
      refine (words_any (c2 - qa) _ (chunk (pad bs) q) wr T hT hch hchl (by omega)).mono ?_
      have HT := Lib.hid hT
      clear hT hch hchl
      rintro e w5 ⟨A5, c5, rfl, hc5, hC5, hA5, hB5⟩
      obtain ⟨V, hV⟩ : ∃ V, V = absorb (pad bs) q := ⟨_, rfl⟩
      have hVl : V.length = 8 := by rw [hV]; exact absorb_length _ _
      have HVE := Lib.hid hV
      have hv5 : ArrAt w5 vb 87 V := by rw [hV]; exact HV.out.below hB5
      have HV5 := Lib.hid hv5
      have HK5 := Lib.hid (HK.out.below hB5)
      have HR5 := Lib.hid (HR.out.below' HR.out.lt hB5)
      have HC6 := Lib.hid (Kd.C_below HC2.out hB5)
      have hszr : rb ≤ wr.heap.size := by have := HB.out.size; rw [HRB.out] at this; exact this
      have HB5 := Lib.hid (HB.out.trans (hB5.mono hszr))
      have lv5 := hv5.lt
      have lk5 := HK5.out.lt
      have lr5 := HR5.out.lt
      have HC5 := Lib.hid hC5
      clear hV HV HK HR HC2 HB hB5 hA5 hC5 lv lk lr
      obtain ⟨v0, v1, v2, v3, v4, v5, v6, v7, hVs⟩ := eight V hVl
      rw [hVs] at hv5
      obtain ⟨a0, _⟩ := hv5.get 0 (by simp)
      obtain ⟨a1, _⟩ := hv5.get 1 (by simp)
      obtain ⟨a2, _⟩ := hv5.get 2 (by simp)
      obtain ⟨a3, _⟩ := hv5.get 3 (by simp)
      obtain ⟨a4, _⟩ := hv5.get 4 (by simp)
      obtain ⟨a5, _⟩ := hv5.get 5 (by simp)
      obtain ⟨a6, _⟩ := hv5.get 6 (by simp)
      obtain ⟨a7, _⟩ := hv5.get 7 (by simp)
      simp only [List.getD_cons_zero, List.getD_cons_succ] at a0 a1 a2 a3 a4 a5 a6 a7
      have HVS := Lib.hid hVs
      clear hv5 hVs
      go_wp2_with fail
      have hx0 : ArrAt (w5.alloc (.cells (wcells [v0, v1, v2, v3, v4, v5, v6, v7]) 87)) w5.heap.size 87 V := by rw [HVS.out]; exact blk_new _ _
      have HX0 := Lib.hid hx0
      have HB6 := Lib.hid (show Below w5.heap.size w5 (w5.alloc (.cells (wcells [v0, v1, v2, v3, v4, v5, v6, v7]) 87)) from (Below.refl _ _).alloc (Nat.le_refl _) _)
      clear hx0 a0 a1 a2 a3 a4 a5 a6 a7
      generalize hxbe : w5.heap.size = xb at *
      have HXB := Lib.hid hxbe
      clear hxbe
      go_loopw [9] (fun v wr => ∃ n : Nat, n ≤ 64 ∧ v = .int .i64 n ∧ ArrAt wr xb 87 (rnds K64 T V n) ∧ Below xb w5 wr) (fun v _ => 64 - (intOf v).toNat)
      case atStart => exact ⟨0, by omega, rfl, HX0.out, HB6.out⟩
      case round =>
        obtain ⟨n, hn, rfl, hx, hB⟩ := hrel
        clear HX0 HB6
        by_cases hn64 : n < 64
        · skip
          --DEV{
          have d1 : decide ((n : Int) < 64) = true := decide_eq_true (by omega)
          obtain ⟨x0, x1, x2, x3, x4, x5, x6, x7, hxe⟩ := eight _ (rnds_length K64 T V hVl n)
          rw [hxe] at hx
          have g0 := (hx.get 0 (by simp)).1
          have g1 := (hx.get 1 (by simp)).1
          have g2 := (hx.get 2 (by simp)).1
          have g3 := (hx.get 3 (by simp)).1
          have g4 := (hx.get 4 (by simp)).1
          have g5 := (hx.get 5 (by simp)).1
          have g6 := (hx.get 6 (by simp)).1
          have g7 := (hx.get 7 (by simp)).1
          simp only [List.getD_cons_zero, List.getD_cons_succ] at g0 g1 g2 g3 g4 g5 g6 g7
          obtain ⟨ad, rfl, gw⟩ := word_at HC5.out hTl (by rw [HXB.out]; exact hB) n hn64
          obtain ⟨gk, _⟩ := (HK5.out.below' lk5 hB).get n (by rw [K64_length]; exact hn64)
          obtain ⟨xn, hxn⟩ : ∃ y, y = T.getD n 0 := ⟨_, rfl⟩
          obtain ⟨kn, hkn⟩ : ∃ y, y = K64.getD n 0 := ⟨_, rfl⟩
          rw [← hxn] at gw
          rw [← hkn] at gk
          have HKX := Lib.hid (And.intro hkn hxn)
          have hn1 : (n : Int) < 64 := by omega
          have lx := hx.lt
          have HXE := Lib.hid hxe
          have HX := Lib.hid hx
          have HB := Lib.hid hB
          clear hxe hx hB hxn hkn
          have hS := And.intro (Below.refl wr.heap.size wr) (And.intro g0 (And.intro g1 (And.intro g2 (And.intro g3 (And.intro g5 (And.intro g6 (And.intro g7 (And.intro gw gk))))))))
          clear g1 g2 g3 g5 g6 g7 gw gk
          go_upto_region 14 with (fail)
          clear g0 g4
          refine start_ (S := fun w' => Below wr.heap.size wr w' ∧ w'.cell? ⟨xb, 0, none⟩ = some (.int .u32 (num x0)) ∧ w'.cell? ⟨xb, 1, none⟩ = some (.int .u32 (num x1)) ∧ w'.cell? ⟨xb, 2, none⟩ = some (.int .u32 (num x2)) ∧ w'.cell? ⟨xb, 3, none⟩ = some (.int .u32 (num x3)) ∧ w'.cell? ⟨xb, 5, none⟩ = some (.int .u32 (num x5)) ∧ w'.cell? ⟨xb, 6, none⟩ = some (.int .u32 (num x6)) ∧ w'.cell? ⟨xb, 7, none⟩ = some (.int .u32 (num x7)) ∧ w'.cell? (ad.add n) = some (.int .u32 (num xn)) ∧ w'.cell? ⟨kb, n, none⟩ = some (.int .u32 (num kn))) (ds := [31]) (n := 32) #[false, false, false, false, false, false, false, false, false, false, false, false, false, false, false, false, false, false, false, false, false, false, false, false, false, false, false, false, false, false, false, false] rfl rfl rfl ?hS0 (fun hHeld => ?hrun)
          case hS0 => exact keep10 ((Below.refl _ _).drew) hS
          case hrun =>
            refine pure_ (i := 0) (N := some 42) (v := ?_) (a' := ?_) #[true, false, false, false, false, false, false, false, false, false, false, false, false, false, false, false, false, false, false, false, false, false, false, false, false, false, false, false, false, false, false, false] rfl rfl (by as_aux_lemma => kernel_rfl) (fun _ _ _ h => h) (Or.inl ⟨by rfl, ?_⟩) ?_ ?_
            rotate_left
            · intro w'
              go_simp
              first | done | with_reducible rfl
            rotate_left
            · simp only [Act.put, List.setIfInBounds_toArray, List.set_cons_zero, List.set_cons_succ, i64_w, i32_w]
              rfl
            refine take_ (i := 1) (N := some 43) (v := ?_) (a' := ?_) #[true, true, false, false, false, false, false, false, false, false, false, false, false, false, false, false, false, false, false, false, false, false, false, false, false, false, false, false, false, false, false, false] rfl rfl (by as_aux_lemma => kernel_rfl) (fun _ _ _ h => h) (Or.inl ⟨by rfl, ?_⟩) hHeld ?_ ?_
            rotate_left
            · rintro w' ⟨hb, s0, s1, s2, s3, s5, s6, s7, sw, sk⟩
              go_simp
              first | done | with_reducible rfl
            rotate_left
            · simp only [Act.put, List.setIfInBounds_toArray, List.set_cons_zero, List.set_cons_succ, i64_w, i32_w]
              rfl
            refine pure_ (i := 2) (N := some 44) (v := ?_) (a' := ?_) #[true, true, true, false, false, false, false, false, false, false, false, false, false, false, false, false, false, false, false, false, false, false, false, false, false, false, false, false, false, false, false, false] rfl rfl (by as_aux_lemma => kernel_rfl) (fun _ _ _ h => h) (Or.inl ⟨by rfl, ?_⟩) ?_ ?_
            rotate_left
            · intro w'
              go_simp
              first | done | with_reducible rfl
            rotate_left
            · simp only [Act.put, List.setIfInBounds_toArray, List.set_cons_zero, List.set_cons_succ, i64_w, i32_w]
              rfl
            refine pure_ (i := 4) (N := some 46) (v := ?_) (a' := ?_) #[true, true, true, false, true, false, false, false, false, false, false, false, false, false, false, false, false, false, false, false, false, false, false, false, false, false, false, false, false, false, false, false] rfl rfl (by as_aux_lemma => kernel_rfl) (fun _ _ _ h => h) (Or.inl ⟨by rfl, ?_⟩) ?_ ?_
            rotate_left
            · intro w'
              go_simp
              first | done | with_reducible rfl
            rotate_left
            · simp only [Act.put, List.setIfInBounds_toArray, List.set_cons_zero, List.set_cons_succ, i64_w, i32_w]
              rfl
            refine pure_ (i := 7) (N := some 49) (v := ?_) (a' := ?_) #[true, true, true, false, true, false, false, true, false, false, false, false, false, false, false, false, false, false, false, false, false, false, false, false, false, false, false, false, false, false, false, false] rfl rfl (by as_aux_lemma => kernel_rfl) (fun _ _ _ h => h) (Or.inl ⟨by rfl, ?_⟩) ?_ ?_
            rotate_left
            · intro w'
              go_simp
              first | done | with_reducible rfl
            rotate_left
            · simp only [Act.put, List.setIfInBounds_toArray, List.set_cons_zero, List.set_cons_succ, i64_w, i32_w]
              rfl
            refine pure_ (i := 11) (N := some 53) (v := ?_) (a' := ?_) #[true, true, true, false, true, false, false, true, false, false, false, true, false, false, false, false, false, false, false, false, false, false, false, false, false, false, false, false, false, false, false, false] rfl rfl (by as_aux_lemma => kernel_rfl) (fun _ _ _ h => h) (Or.inl ⟨by rfl, ?_⟩) ?_ ?_
            rotate_left
            · intro w'
              go_simp
              first | done | with_reducible rfl
            rotate_left
            · simp only [Act.put, List.setIfInBounds_toArray, List.set_cons_zero, List.set_cons_succ, i64_w, i32_w]
              rfl
            refine pure_ (i := 12) (N := some 54) (v := ?_) (a' := ?_) #[true, true, true, false, true, false, false, true, false, false, false, true, true, false, false, false, false, false, false, false, false, false, false, false, false, false, false, false, false, false, false, false] rfl rfl (by as_aux_lemma => kernel_rfl) (fun _ _ _ h => h) (Or.inl ⟨by rfl, ?_⟩) ?_ ?_
            rotate_left
            · intro w'
              go_simp
              first | done | with_reducible rfl
            rotate_left
            · simp only [Act.put, List.setIfInBounds_toArray, List.set_cons_zero, List.set_cons_succ, i64_w, i32_w]
              rfl
            refine take_ (i := 13) (N := some 55) (v := ?_) (a' := ?_) #[true, true, true, false, true, false, false, true, false, false, false, true, true, true, false, false, false, false, false, false, false, false, false, false, false, false, false, false, false, false, false, false] rfl rfl (by as_aux_lemma => kernel_rfl) (fun _ _ _ h => h) (Or.inl ⟨by rfl, ?_⟩) hHeld ?_ ?_
            rotate_left
            · rintro w' ⟨hb, s0, s1, s2, s3, s5, s6, s7, sw, sk⟩
              go_simp
              first | done | with_reducible rfl
            rotate_left
            · simp only [Act.put, List.setIfInBounds_toArray, List.set_cons_zero, List.set_cons_succ, i64_w, i32_w]
              rfl
            refine pure_ (i := 14) (N := some 56) (v := ?_) (a' := ?_) #[true, true, true, false, true, false, false, true, false, false, false, true, true, true, true, false, false, false, false, false, false, false, false, false, false, false, false, false, false, false, false, false] rfl rfl (by as_aux_lemma => kernel_rfl) (fun _ _ _ h => h) (Or.inl ⟨by rfl, ?_⟩) ?_ ?_
            rotate_left
            · intro w'
              go_simp
              first | done | with_reducible rfl
            rotate_left
            · simp only [Act.put, List.setIfInBounds_toArray, List.set_cons_zero, List.set_cons_succ, i64_w, i32_w]
              rfl
            refine pure_ (i := 15) (N := some 57) (v := ?_) (a' := ?_) #[true, true, true, false, true, false, false, true, false, false, false, true, true, true, true, true, false, false, false, false, false, false, false, false, false, false, false, false, false, false, false, false] rfl rfl (by as_aux_lemma => kernel_rfl) (fun _ _ _ h => h) (Or.inl ⟨by rfl, ?_⟩) ?_ ?_
            rotate_left
            · intro w'
              go_simp
              first | done | with_reducible rfl
            rotate_left
            · simp only [Act.put, List.setIfInBounds_toArray, List.set_cons_zero, List.set_cons_succ, i64_w, i32_w]
              rfl
            refine pure_ (i := 16) (N := some 58) (v := ?_) (a' := ?_) #[true, true, true, false, true, false, false, true, false, false, false, true, true, true, true, true, true, false, false, false, false, false, false, false, false, false, false, false, false, false, false, false] rfl rfl (by as_aux_lemma => kernel_rfl) (fun _ _ _ h => h) (Or.inl ⟨by rfl, ?_⟩) ?_ ?_
            rotate_left
            · intro w'
              go_simp
              first | done | with_reducible rfl
            rotate_left
            · simp only [Act.put, List.setIfInBounds_toArray, List.set_cons_zero, List.set_cons_succ, i64_w, i32_w]
              rfl
            refine pure_ (i := 17) (N := some 59) (v := ?_) (a' := ?_) #[true, true, true, false, true, false, false, true, false, false, false, true, true, true, true, true, true, true, false, false, false, false, false, false, false, false, false, false, false, false, false, false] rfl rfl (by as_aux_lemma => kernel_rfl) (fun _ _ _ h => h) (Or.inl ⟨by rfl, ?_⟩) ?_ ?_
            rotate_left
            · intro w'
              go_simp
              first | done | with_reducible rfl
            rotate_left
            · simp only [Act.put, List.setIfInBounds_toArray, List.set_cons_zero, List.set_cons_succ, i64_w, i32_w]
              rfl
            refine take_ (i := 18) (N := some 60) (v := ?_) (a' := ?_) #[true, true, true, false, true, false, false, true, false, false, false, true, true, true, true, true, true, true, true, false, false, false, false, false, false, false, false, false, false, false, false, false] rfl rfl (by as_aux_lemma => kernel_rfl) (fun _ _ _ h => h) (Or.inl ⟨by rfl, ?_⟩) hHeld ?_ ?_
            rotate_left
            · rintro w' ⟨hb, s0, s1, s2, s3, s5, s6, s7, sw, sk⟩
              go_simp
              first | done | with_reducible rfl
            rotate_left
            · simp only [Act.put, List.setIfInBounds_toArray, List.set_cons_zero, List.set_cons_succ, i64_w, i32_w]
              rfl
            refine pure_ (i := 19) (N := some 61) (v := ?_) (a' := ?_) #[true, true, true, false, true, false, false, true, false, false, false, true, true, true, true, true, true, true, true, true, false, false, false, false, false, false, false, false, false, false, false, false] rfl rfl (by as_aux_lemma => kernel_rfl) (fun _ _ _ h => h) (Or.inl ⟨by rfl, ?_⟩) ?_ ?_
            rotate_left
            · intro w'
              go_simp
              first | done | with_reducible rfl
            rotate_left
            · simp only [Act.put, List.setIfInBounds_toArray, List.set_cons_zero, List.set_cons_succ, i64_w, i32_w]
              rfl
            refine pure_ (i := 20) (N := some 62) (v := ?_) (a' := ?_) #[true, true, true, false, true, false, false, true, false, false, false, true, true, true, true, true, true, true, true, true, true, false, false, false, false, false, false, false, false, false, false, false] rfl rfl (by as_aux_lemma => kernel_rfl) (fun _ _ _ h => h) (Or.inl ⟨by rfl, ?_⟩) ?_ ?_
            rotate_left
            · intro w'
              go_simp
              first | done | with_reducible rfl
            rotate_left
            · simp only [Act.put, List.setIfInBounds_toArray, List.set_cons_zero, List.set_cons_succ, i64_w, i32_w]
              rfl
            refine pure_ (i := 22) (N := some 64) (v := ?_) (a' := ?_) #[true, true, true, false, true, false, false, true, false, false, false, true, true, true, true, true, true, true, true, true, true, false, true, false, false, false, false, false, false, false, false, false] rfl rfl (by as_aux_lemma => kernel_rfl) (fun _ _ _ h => h) (Or.inl ⟨by rfl, ?_⟩) ?_ ?_
            rotate_left
            · intro w'
              go_simp
              first | done | with_reducible rfl
            rotate_left
            · simp only [Act.put, List.setIfInBounds_toArray, List.set_cons_zero, List.set_cons_succ, i64_w, i32_w]
              rfl
            refine pure_ (i := 23) (N := some 65) (v := ?_) (a' := ?_) #[true, true, true, false, true, false, false, true, false, false, false, true, true, true, true, true, true, true, true, true, true, false, true, true, false, false, false, false, false, false, false, false] rfl rfl (by as_aux_lemma => kernel_rfl) (fun _ _ _ h => h) (Or.inl ⟨by rfl, ?_⟩) ?_ ?_
            rotate_left
            · intro w'
              go_simp
              first | done | with_reducible rfl
            rotate_left
            · simp only [Act.put, List.setIfInBounds_toArray, List.set_cons_zero, List.set_cons_succ, i64_w, i32_w]
              rfl
            refine take_ (i := 24) (N := some 66) (v := ?_) (a' := ?_) #[true, true, true, false, true, false, false, true, false, false, false, true, true, true, true, true, true, true, true, true, true, false, true, true, true, false, false, false, false, false, false, false] rfl rfl (by as_aux_lemma => kernel_rfl) (fun _ _ _ h => h) (Or.inl ⟨by rfl, ?_⟩) hHeld ?_ ?_
            rotate_left
            · rintro w' ⟨hb, s0, s1, s2, s3, s5, s6, s7, sw, sk⟩
              go_simp
              first | done | with_reducible rfl
            rotate_left
            · simp only [Act.put, List.setIfInBounds_toArray, List.set_cons_zero, List.set_cons_succ, i64_w, i32_w]
              rfl
            refine pure_ (i := 26) (N := some 68) (v := ?_) (a' := ?_) #[true, true, true, false, true, false, false, true, false, false, false, true, true, true, true, true, true, true, true, true, true, false, true, true, true, false, true, false, false, false, false, false] rfl rfl (by as_aux_lemma => kernel_rfl) (fun _ _ _ h => h) (Or.inl ⟨by rfl, ?_⟩) ?_ ?_
            rotate_left
            · intro w'
              go_simp
              first | done | with_reducible rfl
            rotate_left
            · simp only [Act.put, List.setIfInBounds_toArray, List.set_cons_zero, List.set_cons_succ, i64_w, i32_w]
              rfl
            refine pure_ (i := 27) (N := some 69) (v := ?_) (a' := ?_) #[true, true, true, false, true, false, false, true, false, false, false, true, true, true, true, true, true, true, true, true, true, false, true, true, true, false, true, true, false, false, false, false] rfl rfl (by as_aux_lemma => kernel_rfl) (fun _ _ _ h => h) (Or.inl ⟨by rfl, ?_⟩) ?_ ?_
            rotate_left
            · intro w'
              go_simp
              first | done | with_reducible rfl
            rotate_left
            · simp only [Act.put, List.setIfInBounds_toArray, List.set_cons_zero, List.set_cons_succ, i64_w, i32_w]
              rfl
            refine pure_ (i := 28) (N := some 70) (v := ?_) (a' := ?_) #[true, true, true, false, true, false, false, true, false, false, false, true, true, true, true, true, true, true, true, true, true, false, true, true, true, false, true, true, true, false, false, false] rfl rfl (by as_aux_lemma => kernel_rfl) (fun _ _ _ h => h) (Or.inl ⟨by rfl, ?_⟩) ?_ ?_
            rotate_left
            · intro w'
              go_simp
              first | done | with_reducible rfl
            rotate_left
            · simp only [Act.put, List.setIfInBounds_toArray, List.set_cons_zero, List.set_cons_succ, i64_w, i32_w]
              rfl
            refine take_ (i := 29) (N := some 71) (v := ?_) (a' := ?_) #[true, true, true, false, true, false, false, true, false, false, false, true, true, true, true, true, true, true, true, true, true, false, true, true, true, false, true, true, true, true, false, false] rfl rfl (by as_aux_lemma => kernel_rfl) (fun _ _ _ h => h) (Or.inl ⟨by rfl, ?_⟩) hHeld ?_ ?_
            rotate_left
            · rintro w' ⟨hb, s0, s1, s2, s3, s5, s6, s7, sw, sk⟩
              go_simp
              first | done | with_reducible rfl
            rotate_left
            · simp only [Act.put, List.setIfInBounds_toArray, List.set_cons_zero, List.set_cons_succ, i64_w, i32_w]
              rfl
            refine one_ (i := 3) (N := some 45) #[true, true, true, true, true, false, false, true, false, false, false, true, true, true, true, true, true, true, true, true, true, false, true, true, true, false, true, true, true, true, false, false] rfl rfl (by as_aux_lemma => kernel_rfl) (by decide) (fun K hK => ?_)
            refine goes_ Try.func56 (by as_aux_lemma => kernel_rfl) rfl #[.int .u32 (num x4), .int .i64 6] (by rfl) rfl rfl (by (try simp only [List.map_toArray, List.map_cons, List.map_nil]); first | done | rfl) ?_
            refine (turned_any x4 6 (by decide) (by decide) _).mono ?_
            rintro e w' ⟨rfl, hB⟩
            refine ⟨_, rfl, ?_⟩
            refine hK.out _ _ (keep10 hB hHeld) (fun hHeld1 => ?_)
            clear hK K
            refine norm_ (a' := ?_) ?_ ?_
            rotate_left
            · show Act.put _ (some 45) _ = _
              simp only [Act.put, List.setIfInBounds_toArray, List.set_cons_zero, List.set_cons_succ, i64_w, i32_w]
              rfl
            refine one_ (i := 5) (N := some 47) #[true, true, true, true, true, true, false, true, false, false, false, true, true, true, true, true, true, true, true, true, true, false, true, true, true, false, true, true, true, true, false, false] rfl rfl (by as_aux_lemma => kernel_rfl) (by decide) (fun K hK => ?_)
            refine goes_ Try.func56 (by as_aux_lemma => kernel_rfl) rfl #[.int .u32 (num x4), .int .i64 11] (by rfl) rfl rfl (by (try simp only [List.map_toArray, List.map_cons, List.map_nil]); first | done | rfl) ?_
            refine (turned_any x4 11 (by decide) (by decide) _).mono ?_
            rintro e w' ⟨rfl, hB⟩
            refine ⟨_, rfl, ?_⟩
            refine hK.out _ _ (keep10 hB hHeld1) (fun hHeld2 => ?_)
            clear hK K
            refine norm_ (a' := ?_) ?_ ?_
            rotate_left
            · show Act.put _ (some 47) _ = _
              simp only [Act.put, List.setIfInBounds_toArray, List.set_cons_zero, List.set_cons_succ, i64_w, i32_w]
              rfl
            refine pure_ (i := 6) (N := some 48) (v := ?_) (a' := ?_) #[true, true, true, true, true, true, true, true, false, false, false, true, true, true, true, true, true, true, true, true, true, false, true, true, true, false, true, true, true, true, false, false] rfl rfl (by as_aux_lemma => kernel_rfl) (fun _ _ _ h => h) (Or.inl ⟨by rfl, ?_⟩) ?_ ?_
            rotate_left
            · intro w'
              go_simp
              first | done | with_reducible rfl
            rotate_left
            · simp only [Act.put, List.setIfInBounds_toArray, List.set_cons_zero, List.set_cons_succ, i64_w, i32_w]
              rfl
            refine one_ (i := 8) (N := some 50) #[true, true, true, true, true, true, true, true, true, false, false, true, true, true, true, true, true, true, true, true, true, false, true, true, true, false, true, true, true, true, false, false] rfl rfl (by as_aux_lemma => kernel_rfl) (by decide) (fun K hK => ?_)
            refine goes_ Try.func56 (by as_aux_lemma => kernel_rfl) rfl #[.int .u32 (num x4), .int .i64 25] (by rfl) rfl rfl (by (try simp only [List.map_toArray, List.map_cons, List.map_nil]); first | done | rfl) ?_
            refine (turned_any x4 25 (by decide) (by decide) _).mono ?_
            rintro e w' ⟨rfl, hB⟩
            refine ⟨_, rfl, ?_⟩
            refine hK.out _ _ (keep10 hB hHeld2) (fun hHeld3 => ?_)
            clear hK K
            refine norm_ (a' := ?_) ?_ ?_
            rotate_left
            · show Act.put _ (some 50) _ = _
              simp only [Act.put, List.setIfInBounds_toArray, List.set_cons_zero, List.set_cons_succ, i64_w, i32_w]
              rfl
            refine pure_ (i := 9) (N := some 51) (v := ?_) (a' := ?_) #[true, true, true, true, true, true, true, true, true, true, false, true, true, true, true, true, true, true, true, true, true, false, true, true, true, false, true, true, true, true, false, false] rfl rfl (by as_aux_lemma => kernel_rfl) (fun _ _ _ h => h) (Or.inl ⟨by rfl, ?_⟩) ?_ ?_
            rotate_left
            · intro w'
              go_simp
              first | done | with_reducible rfl
            rotate_left
            · simp only [Act.put, List.setIfInBounds_toArray, List.set_cons_zero, List.set_cons_succ, i64_w, i32_w]
              rfl
            refine pure_ (i := 10) (N := some 52) (v := ?_) (a' := ?_) #[true, true, true, true, true, true, true, true, true, true, true, true, true, true, true, true, true, true, true, true, true, false, true, true, true, false, true, true, true, true, false, false] rfl rfl (by as_aux_lemma => kernel_rfl) (fun _ _ _ h => h) (Or.inl ⟨by rfl, ?_⟩) ?_ ?_
            rotate_left
            · intro w'
              go_simp
              first | done | with_reducible rfl
            rotate_left
            · simp only [Act.put, List.setIfInBounds_toArray, List.set_cons_zero, List.set_cons_succ, i64_w, i32_w]
              rfl
            refine pure_ (i := 21) (N := some 63) (v := ?_) (a' := ?_) #[true, true, true, true, true, true, true, true, true, true, true, true, true, true, true, true, true, true, true, true, true, true, true, true, true, false, true, true, true, true, false, false] rfl rfl (by as_aux_lemma => kernel_rfl) (fun _ _ _ h => h) (Or.inl ⟨by rfl, ?_⟩) ?_ ?_
            rotate_left
            · intro w'
              go_simp
              first | done | with_reducible rfl
            rotate_left
            · simp only [Act.put, List.setIfInBounds_toArray, List.set_cons_zero, List.set_cons_succ, i64_w, i32_w]
              rfl
            refine pure_ (i := 25) (N := some 67) (v := ?_) (a' := ?_) #[true, true, true, true, true, true, true, true, true, true, true, true, true, true, true, true, true, true, true, true, true, true, true, true, true, true, true, true, true, true, false, false] rfl rfl (by as_aux_lemma => kernel_rfl) (fun _ _ _ h => h) (Or.inl ⟨by rfl, ?_⟩) ?_ ?_
            rotate_left
            · intro w'
              go_simp
              first | done | with_reducible rfl
            rotate_left
            · simp only [Act.put, List.setIfInBounds_toArray, List.set_cons_zero, List.set_cons_succ, i64_w, i32_w]
              rfl
            refine pure_ (i := 30) (N := some 72) (v := ?_) (a' := ?_) #[true, true, true, true, true, true, true, true, true, true, true, true, true, true, true, true, true, true, true, true, true, true, true, true, true, true, true, true, true, true, true, false] rfl rfl (by as_aux_lemma => kernel_rfl) (fun _ _ _ h => h) (Or.inl ⟨by rfl, ?_⟩) ?_ ?_
            rotate_left
            · intro w'
              go_simp
              first | done | with_reducible rfl
            rotate_left
            · simp only [Act.put, List.setIfInBounds_toArray, List.set_cons_zero, List.set_cons_succ, i64_w, i32_w]
              rfl
            refine tail_list 31 (t := [31]) (fuel := 0) rfl rfl rfl (by as_aux_lemma => kernel_rfl) (by decide) ?_
            have hH := hHeld3
            clear hHeld hHeld1 hHeld2 hHeld3 hS
            go_upto_region 15 with (fail)
            rw [t_val2]
            generalize hTT : x7 + big1 x4 + (x6 ^^^ (x4 &&& (x5 ^^^ x6))) + kn + xn = TT at *
            have HTT := Lib.hid hTT
            clear hTT
            refine start_ (S := fun w' => Below wr.heap.size wr w' ∧ w'.cell? ⟨xb, 0, none⟩ = some (.int .u32 (num x0)) ∧ w'.cell? ⟨xb, 1, none⟩ = some (.int .u32 (num x1)) ∧ w'.cell? ⟨xb, 2, none⟩ = some (.int .u32 (num x2)) ∧ w'.cell? ⟨xb, 3, none⟩ = some (.int .u32 (num x3)) ∧ w'.cell? ⟨xb, 5, none⟩ = some (.int .u32 (num x5)) ∧ w'.cell? ⟨xb, 6, none⟩ = some (.int .u32 (num x6)) ∧ w'.cell? ⟨xb, 7, none⟩ = some (.int .u32 (num x7)) ∧ w'.cell? (ad.add n) = some (.int .u32 (num xn)) ∧ w'.cell? ⟨kb, n, none⟩ = some (.int .u32 (num kn))) (ds := [24]) (n := 25) #[false, false, false, false, false, false, false, false, false, false, false, false, false, false, false, false, false, false, false, false, false, false, false, false, false] rfl rfl rfl ?hS0 (fun hHeld => ?hrun)
            case hS0 => exact keep10 ((Below.refl _ _).drew) hH
            case hrun =>
              refine pure_ (i := 0) (N := some 73) (v := ?_) (a' := ?_) #[true, false, false, false, false, false, false, false, false, false, false, false, false, false, false, false, false, false, false, false, false, false, false, false, false] rfl rfl (by kernel_rfl) (fun _ _ _ h => h) (Or.inl ⟨by rfl, ?_⟩) ?_ ?_
              rotate_left
              · intro w'
                go_simp
                first | done | with_reducible rfl
              rotate_left
              · simp only [Act.put, List.setIfInBounds_toArray, List.set_cons_zero, List.set_cons_succ, i64_w, i32_w]
                rfl
              refine pure_ (i := 2) (N := some 75) (v := ?_) (a' := ?_) #[true, false, true, false, false, false, false, false, false, false, false, false, false, false, false, false, false, false, false, false, false, false, false, false, false] rfl rfl (by kernel_rfl) (fun _ _ _ h => h) (Or.inl ⟨by rfl, ?_⟩) ?_ ?_
              rotate_left
              · intro w'
                go_simp
                first | done | with_reducible rfl
              rotate_left
              · simp only [Act.put, List.setIfInBounds_toArray, List.set_cons_zero, List.set_cons_succ, i64_w, i32_w]
                rfl
              refine pure_ (i := 5) (N := some 78) (v := ?_) (a' := ?_) #[true, false, true, false, false, true, false, false, false, false, false, false, false, false, false, false, false, false, false, false, false, false, false, false, false] rfl rfl (by kernel_rfl) (fun _ _ _ h => h) (Or.inl ⟨by rfl, ?_⟩) ?_ ?_
              rotate_left
              · intro w'
                go_simp
                first | done | with_reducible rfl
              rotate_left
              · simp only [Act.put, List.setIfInBounds_toArray, List.set_cons_zero, List.set_cons_succ, i64_w, i32_w]
                rfl
              refine pure_ (i := 8) (N := some 81) (v := ?_) (a' := ?_) #[true, false, true, false, false, true, false, false, true, false, false, false, false, false, false, false, false, false, false, false, false, false, false, false, false] rfl rfl (by kernel_rfl) (fun _ _ _ h => h) (Or.inl ⟨by rfl, ?_⟩) ?_ ?_
              rotate_left
              · intro w'
                go_simp
                first | done | with_reducible rfl
              rotate_left
              · simp only [Act.put, List.setIfInBounds_toArray, List.set_cons_zero, List.set_cons_succ, i64_w, i32_w]
                rfl
              refine pure_ (i := 9) (N := some 82) (v := ?_) (a' := ?_) #[true, false, true, false, false, true, false, false, true, true, false, false, false, false, false, false, false, false, false, false, false, false, false, false, false] rfl rfl (by kernel_rfl) (fun _ _ _ h => h) (Or.inl ⟨by rfl, ?_⟩) ?_ ?_
              rotate_left
              · intro w'
                go_simp
                first | done | with_reducible rfl
              rotate_left
              · simp only [Act.put, List.setIfInBounds_toArray, List.set_cons_zero, List.set_cons_succ, i64_w, i32_w]
                rfl
              refine take_ (i := 10) (N := some 83) (v := ?_) (a' := ?_) #[true, false, true, false, false, true, false, false, true, true, true, false, false, false, false, false, false, false, false, false, false, false, false, false, false] rfl rfl (by kernel_rfl) (fun _ _ _ h => h) (Or.inl ⟨by rfl, ?_⟩) hHeld ?_ ?_
              rotate_left
              · rintro w' ⟨hb, s0, s1, s2, s3, s5, s6, s7, sw, sk⟩
                go_simp
                first | done | with_reducible rfl
              rotate_left
              · simp only [Act.put, List.setIfInBounds_toArray, List.set_cons_zero, List.set_cons_succ, i64_w, i32_w]
                rfl
              refine pure_ (i := 11) (N := some 84) (v := ?_) (a' := ?_) #[true, false, true, false, false, true, false, false, true, true, true, true, false, false, false, false, false, false, false, false, false, false, false, false, false] rfl rfl (by kernel_rfl) (fun _ _ _ h => h) (Or.inl ⟨by rfl, ?_⟩) ?_ ?_
              rotate_left
              · intro w'
                go_simp
                first | done | with_reducible rfl
              rotate_left
              · simp only [Act.put, List.setIfInBounds_toArray, List.set_cons_zero, List.set_cons_succ, i64_w, i32_w]
                rfl
              refine pure_ (i := 12) (N := some 85) (v := ?_) (a' := ?_) #[true, false, true, false, false, true, false, false, true, true, true, true, true, false, false, false, false, false, false, false, false, false, false, false, false] rfl rfl (by kernel_rfl) (fun _ _ _ h => h) (Or.inl ⟨by rfl, ?_⟩) ?_ ?_
              rotate_left
              · intro w'
                go_simp
                first | done | with_reducible rfl
              rotate_left
              · simp only [Act.put, List.setIfInBounds_toArray, List.set_cons_zero, List.set_cons_succ, i64_w, i32_w]
                rfl
              refine pure_ (i := 13) (N := some 86) (v := ?_) (a' := ?_) #[true, false, true, false, false, true, false, false, true, true, true, true, true, true, false, false, false, false, false, false, false, false, false, false, false] rfl rfl (by kernel_rfl) (fun _ _ _ h => h) (Or.inl ⟨by rfl, ?_⟩) ?_ ?_
              rotate_left
              · intro w'
                go_simp
                first | done | with_reducible rfl
              rotate_left
              · simp only [Act.put, List.setIfInBounds_toArray, List.set_cons_zero, List.set_cons_succ, i64_w, i32_w]
                rfl
              refine take_ (i := 14) (N := some 87) (v := ?_) (a' := ?_) #[true, false, true, false, false, true, false, false, true, true, true, true, true, true, true, false, false, false, false, false, false, false, false, false, false] rfl rfl (by kernel_rfl) (fun _ _ _ h => h) (Or.inl ⟨by rfl, ?_⟩) hHeld ?_ ?_
              rotate_left
              · rintro w' ⟨hb, s0, s1, s2, s3, s5, s6, s7, sw, sk⟩
                go_simp
                first | done | with_reducible rfl
              rotate_left
              · simp only [Act.put, List.setIfInBounds_toArray, List.set_cons_zero, List.set_cons_succ, i64_w, i32_w]
                rfl
              refine pure_ (i := 15) (N := some 88) (v := ?_) (a' := ?_) #[true, false, true, false, false, true, false, false, true, true, true, true, true, true, true, true, false, false, false, false, false, false, false, false, false] rfl rfl (by kernel_rfl) (fun _ _ _ h => h) (Or.inl ⟨by rfl, ?_⟩) ?_ ?_
              rotate_left
              · intro w'
                go_simp
                first | done | with_reducible rfl
              rotate_left
              · simp only [Act.put, List.setIfInBounds_toArray, List.set_cons_zero, List.set_cons_succ, i64_w, i32_w]
                rfl
              refine pure_ (i := 16) (N := some 89) (v := ?_) (a' := ?_) #[true, false, true, false, false, true, false, false, true, true, true, true, true, true, true, true, true, false, false, false, false, false, false, false, false] rfl rfl (by kernel_rfl) (fun _ _ _ h => h) (Or.inl ⟨by rfl, ?_⟩) ?_ ?_
              rotate_left
              · intro w'
                go_simp
                first | done | with_reducible rfl
              rotate_left
              · simp only [Act.put, List.setIfInBounds_toArray, List.set_cons_zero, List.set_cons_succ, i64_w, i32_w]
                rfl
              refine pure_ (i := 17) (N := some 90) (v := ?_) (a' := ?_) #[true, false, true, false, false, true, false, false, true, true, true, true, true, true, true, true, true, true, false, false, false, false, false, false, false] rfl rfl (by kernel_rfl) (fun _ _ _ h => h) (Or.inl ⟨by rfl, ?_⟩) ?_ ?_
              rotate_left
              · intro w'
                go_simp
                first | done | with_reducible rfl
              rotate_left
              · simp only [Act.put, List.setIfInBounds_toArray, List.set_cons_zero, List.set_cons_succ, i64_w, i32_w]
                rfl
              refine take_ (i := 18) (N := some 91) (v := ?_) (a' := ?_) #[true, false, true, false, false, true, false, false, true, true, true, true, true, true, true, true, true, true, true, false, false, false, false, false, false] rfl rfl (by kernel_rfl) (fun _ _ _ h => h) (Or.inl ⟨by rfl, ?_⟩) hHeld ?_ ?_
              rotate_left
              · rintro w' ⟨hb, s0, s1, s2, s3, s5, s6, s7, sw, sk⟩
                go_simp
                first | done | with_reducible rfl
              rotate_left
              · simp only [Act.put, List.setIfInBounds_toArray, List.set_cons_zero, List.set_cons_succ, i64_w, i32_w]
                rfl
              refine pure_ (i := 19) (N := some 92) (v := ?_) (a' := ?_) #[true, false, true, false, false, true, false, false, true, true, true, true, true, true, true, true, true, true, true, true, false, false, false, false, false] rfl rfl (by kernel_rfl) (fun _ _ _ h => h) (Or.inl ⟨by rfl, ?_⟩) ?_ ?_
              rotate_left
              · intro w'
                go_simp
                first | done | with_reducible rfl
              rotate_left
              · simp only [Act.put, List.setIfInBounds_toArray, List.set_cons_zero, List.set_cons_succ, i64_w, i32_w]
                rfl
              refine take_ (i := 20) (N := some 93) (v := ?_) (a' := ?_) #[true, false, true, false, false, true, false, false, true, true, true, true, true, true, true, true, true, true, true, true, true, false, false, false, false] rfl rfl (by kernel_rfl) (fun _ _ _ h => h) (Or.inl ⟨by rfl, ?_⟩) hHeld ?_ ?_
              rotate_left
              · rintro w' ⟨hb, s0, s1, s2, s3, s5, s6, s7, sw, sk⟩
                go_simp
                first | done | with_reducible rfl
              rotate_left
              · simp only [Act.put, List.setIfInBounds_toArray, List.set_cons_zero, List.set_cons_succ, i64_w, i32_w]
                rfl
              refine pure_ (i := 21) (N := some 94) (v := ?_) (a' := ?_) #[true, false, true, false, false, true, false, false, true, true, true, true, true, true, true, true, true, true, true, true, true, true, false, false, false] rfl rfl (by kernel_rfl) (fun _ _ _ h => h) (Or.inl ⟨by rfl, ?_⟩) ?_ ?_
              rotate_left
              · intro w'
                go_simp
                first | done | with_reducible rfl
              rotate_left
              · simp only [Act.put, List.setIfInBounds_toArray, List.set_cons_zero, List.set_cons_succ, i64_w, i32_w]
                rfl
              refine pure_ (i := 22) (N := some 95) (v := ?_) (a' := ?_) #[true, false, true, false, false, true, false, false, true, true, true, true, true, true, true, true, true, true, true, true, true, true, true, false, false] rfl rfl (by kernel_rfl) (fun _ _ _ h => h) (Or.inl ⟨by rfl, ?_⟩) ?_ ?_
              rotate_left
              · intro w'
                go_simp
                first | done | with_reducible rfl
              rotate_left
              · simp only [Act.put, List.setIfInBounds_toArray, List.set_cons_zero, List.set_cons_succ, i64_w, i32_w]
                rfl
              refine one_ (i := 1) (N := some 74) #[true, true, true, false, false, true, false, false, true, true, true, true, true, true, true, true, true, true, true, true, true, true, true, false, false] rfl rfl (by kernel_rfl) (by decide) (fun K hK => ?_)
              refine goes_ Try.func56 (by kernel_rfl) rfl #[.int .u32 (num x0), .int .i64 2] (by rfl) rfl rfl (by (try simp only [List.map_toArray, List.map_cons, List.map_nil]); first | done | rfl) ?_
              refine (turned_any x0 2 (by decide) (by decide) _).mono ?_
              rintro e w' ⟨rfl, hB⟩
              refine ⟨_, rfl, ?_⟩
              refine hK.out _ _ (keep10 hB hHeld) (fun hHeld1 => ?_)
              clear hK K
              refine norm_ (a' := ?_) ?_ ?_
              rotate_left
              · show Act.put _ (some 74) _ = _
                simp only [Act.put, List.setIfInBounds_toArray, List.set_cons_zero, List.set_cons_succ, i64_w, i32_w]
                rfl
              refine one_ (i := 3) (N := some 76) #[true, true, true, true, false, true, false, false, true, true, true, true, true, true, true, true, true, true, true, true, true, true, true, false, false] rfl rfl (by kernel_rfl) (by decide) (fun K hK => ?_)
              refine goes_ Try.func56 (by kernel_rfl) rfl #[.int .u32 (num x0), .int .i64 13] (by rfl) rfl rfl (by (try simp only [List.map_toArray, List.map_cons, List.map_nil]); first | done | rfl) ?_
              refine (turned_any x0 13 (by decide) (by decide) _).mono ?_
              rintro e w' ⟨rfl, hB⟩
              refine ⟨_, rfl, ?_⟩
              refine hK.out _ _ (keep10 hB hHeld1) (fun hHeld2 => ?_)
              clear hK K
              refine norm_ (a' := ?_) ?_ ?_
              rotate_left
              · show Act.put _ (some 76) _ = _
                simp only [Act.put, List.setIfInBounds_toArray, List.set_cons_zero, List.set_cons_succ, i64_w, i32_w]
                rfl
              refine pure_ (i := 4) (N := some 77) (v := ?_) (a' := ?_) #[true, true, true, true, true, true, false, false, true, true, true, true, true, true, true, true, true, true, true, true, true, true, true, false, false] rfl rfl (by kernel_rfl) (fun _ _ _ h => h) (Or.inl ⟨by rfl, ?_⟩) ?_ ?_
              rotate_left
              · intro w'
                go_simp
                first | done | with_reducible rfl
              rotate_left
              · simp only [Act.put, List.setIfInBounds_toArray, List.set_cons_zero, List.set_cons_succ, i64_w, i32_w]
                rfl
              refine one_ (i := 6) (N := some 79) #[true, true, true, true, true, true, true, false, true, true, true, true, true, true, true, true, true, true, true, true, true, true, true, false, false] rfl rfl (by kernel_rfl) (by decide) (fun K hK => ?_)
              refine goes_ Try.func56 (by kernel_rfl) rfl #[.int .u32 (num x0), .int .i64 22] (by rfl) rfl rfl (by (try simp only [List.map_toArray, List.map_cons, List.map_nil]); first | done | rfl) ?_
              refine (turned_any x0 22 (by decide) (by decide) _).mono ?_
              rintro e w' ⟨rfl, hB⟩
              refine ⟨_, rfl, ?_⟩
              refine hK.out _ _ (keep10 hB hHeld2) (fun hHeld3 => ?_)
              clear hK K
              refine norm_ (a' := ?_) ?_ ?_
              rotate_left
              · show Act.put _ (some 79) _ = _
                simp only [Act.put, List.setIfInBounds_toArray, List.set_cons_zero, List.set_cons_succ, i64_w, i32_w]
                rfl
              refine pure_ (i := 7) (N := some 80) (v := ?_) (a' := ?_) #[true, true, true, true, true, true, true, true, true, true, true, true, true, true, true, true, true, true, true, true, true, true, true, false, false] rfl rfl (by kernel_rfl) (fun _ _ _ h => h) (Or.inl ⟨by rfl, ?_⟩) ?_ ?_
              rotate_left
              · intro w'
                go_simp
                first | done | with_reducible rfl
              rotate_left
              · simp only [Act.put, List.setIfInBounds_toArray, List.set_cons_zero, List.set_cons_succ, i64_w, i32_w]
                rfl
              refine pure_ (i := 23) (N := some 96) (v := ?_) (a' := ?_) #[true, true, true, true, true, true, true, true, true, true, true, true, true, true, true, true, true, true, true, true, true, true, true, true, false] rfl rfl (by kernel_rfl) (fun _ _ _ h => h) (Or.inl ⟨by rfl, ?_⟩) ?_ ?_
              rotate_left
              · intro w'
                go_simp
                first | done | with_reducible rfl
              rotate_left
              · simp only [Act.put, List.setIfInBounds_toArray, List.set_cons_zero, List.set_cons_succ, i64_w, i32_w]
                rfl
              refine tail_list 24 (t := [24]) (fuel := 0) rfl rfl rfl (by kernel_rfl) (by decide) ?_
              have hH2 := hHeld3
              clear hHeld hHeld1 hHeld2 hHeld3 hH
              go_upto_region 16 with (fail)
              rw [u_val2]
              generalize hU : big0 x0 + ((x0 &&& x1) ||| (x2 &&& (x0 ||| x1))) = U at *
              have HU := Lib.hid hU
              clear hU
              obtain ⟨hb2, s0, s1, s2, s3, s5, s6, s7, sw, sk⟩ := hH2
              have HX2 := Lib.hid (HX.out.below hb2)
              have lx2 := HX2.out.lt
              have HB2 := Lib.hid hb2
              clear hb2 s0 s7 sw sk
              go_wp2_with (refine wpList_store_row rfl (.tmp 8) (.tmp 114) 87 rfl xb rfl _ rfl 87 _ HX2.out (by rfl) (by rfl) (by simp [Value.oneCell']) rfl ?_)
              rw [num_add, num_add]
              have hW : Below xb w5 (w'.setRow xb (wcells [TT + U, x0, x1, x2, x3 + TT, x4, x5, x6])) := below_setRow (HB.out.trans (HB2.out.mono (Nat.le_of_lt lx))) (Nat.le_refl _) _
              refine ⟨⟨n + 1, by omega, by go_num, ?_, hW⟩, by simp [intOf]; omega⟩
              have e : rnds K64 T V (n + 1) = [TT + U, x0, x1, x2, x3 + TT, x4, x5, x6] := by
                show rnd (K64.getD n 0) (T.getD n 0) (rnds K64 T V n) = _
                rw [HXE.out, ← HKX.out.1, ← HKX.out.2, ← HTT.out, ← HU.out]
                rfl
              rw [e]
              show ArrAt (w'.setRow xb (wcells [TT + U, x0, x1, x2, x3 + TT, x4, x5, x6])) _ _ _
              exact HX2.out.setRow
              --DEV}
        · obtain rfl : n = 64 := by omega
          obtain ⟨y, hye⟩ : ∃ y, rnds K64 T V 64 = y := ⟨_, rfl⟩
          have hyl : y.length = 8 := by rw [← hye]; exact rnds_length _ _ _ hVl _
          rw [hye] at hx
          have hxv : vb < xb := lv5
          have hszo : rb ≤ wr.heap.size := Nat.le_trans (Nat.le_of_lt lr5) (Nat.le_of_lt hx.lt)
          have HYE := Lib.hid hye
          have HV6 := Lib.hid (HV5.out.below' lv5 hB)
          have HK6 := Lib.hid (HK5.out.below' lk5 hB)
          have HR6 := Lib.hid (HR5.out.below' lr5 hB)
          have HC7 := Lib.hid (Kd.C_below HC6.out (by rw [HXB.out]; exact hB))
          have HB6 := Lib.hid (HB5.out.trans (hB.mono (by omega)))
          have HX := Lib.hid hx
          have lx := hx.lt
          clear hye hx hB HV5 HK5 HR5 HC6 HB5
          go_wp2_with fail
          go_loopw [14] (fun v w' => ∃ j : Nat, j ≤ 8 ∧ v = .int .i64 j ∧ ArrAt w' vb 87 (sums V y j) ∧ ArrAt w' xb 87 y ∧ wr.grownBy w' (some vb)) (fun v _ => 8 - (intOf v).toNat)
          case atStart => exact ⟨0, by omega, rfl, HV6.out, HX.out, gb_refl _ _⟩
          case round =>
            obtain ⟨j, hj, rfl, hv, hx, hG⟩ := hrel
            clear HV6 HX
            by_cases hj8 : j < 8
            · have d1 : decide ((j : Int) < 8) = true := decide_eq_true (by omega)
              have g0 := (hv.get j (by rw [sums_length _ _ _ hVl hyl hj]; exact hj8))
              have g1 := (hx.get j (by omega)).1
              rw [sums_getD _ _ _ hVl hyl hj8] at g0
              obtain ⟨g0, p0⟩ := g0
              have hst := sums_set V y j hVl hyl hj8
              have hj1 : (j : Int) < 8 := by omega
              obtain ⟨a, ha⟩ : ∃ a, a = V.getD j 0 := ⟨_, rfl⟩
              obtain ⟨b, hb⟩ : ∃ b, b = y.getD j 0 := ⟨_, rfl⟩
              rw [← ha] at g0 hst
              rw [← hb] at g1 hst
              have HST := Lib.hid hst
              have lvw := hv.lt
              have lxw := hx.lt
              have HX := Lib.hid hx
              have HV := Lib.hid hv
              have HG := Lib.hid hG
              clear hst ha hb hx hv hG
              have hS := And.intro g0 g1
              clear g0 g1
              go_upto_region 20 with (fail)
              refine start_ (S := fun w' => w'.cell? ⟨vb, j, none⟩ = some (.int .u32 (num a)) ∧ w'.cell? ⟨xb, j, none⟩ = some (.int .u32 (num b))) (ds := [8, 9]) (n := 10) #[false, false, false, false, false, false, false, false, false, false] rfl rfl rfl ?hS0 (fun hHeld => ?hrun)
              case hS0 => exact hS
              case hrun =>
                refine pure_ (i := 0) (N := some 119) (v := ?_) (a' := ?_) #[true, false, false, false, false, false, false, false, false, false] rfl rfl (by kernel_rfl) (fun _ _ _ h => h) (Or.inl ⟨by rfl, ?_⟩) ?_ ?_
                rotate_left
                · intro w'
                  go_simp
                  first | done | with_reducible rfl
                rotate_left
                · simp only [Act.put, List.setIfInBounds_toArray, List.set_cons_zero, List.set_cons_succ, i64_w, i32_w]
                  rfl
                refine pure_ (i := 1) (N := some 120) (v := ?_) (a' := ?_) #[true, true, false, false, false, false, false, false, false, false] rfl rfl (by kernel_rfl) (fun _ _ _ h => h) (Or.inl ⟨by rfl, ?_⟩) ?_ ?_
                rotate_left
                · intro w'
                  go_simp
                  first | done | with_reducible rfl
                rotate_left
                · simp only [Act.put, List.setIfInBounds_toArray, List.set_cons_zero, List.set_cons_succ, i64_w, i32_w]
                  rfl
                refine pure_ (i := 2) (N := some 121) (v := ?_) (a' := ?_) #[true, true, true, false, false, false, false, false, false, false] rfl rfl (by kernel_rfl) (fun _ _ _ h => h) (Or.inl ⟨by rfl, ?_⟩) ?_ ?_
                rotate_left
                · intro w'
                  go_simp
                  first | done | with_reducible rfl
                rotate_left
                · simp only [Act.put, List.setIfInBounds_toArray, List.set_cons_zero, List.set_cons_succ, i64_w, i32_w]
                  rfl
                refine take_ (i := 3) (N := some 122) (v := ?_) (a' := ?_) #[true, true, true, true, false, false, false, false, false, false] rfl rfl (by kernel_rfl) (fun _ _ _ h => h) (Or.inl ⟨by rfl, ?_⟩) hHeld ?_ ?_
                rotate_left
                · rintro w' ⟨s0, s1⟩
                  go_simp
                  first | done | with_reducible rfl
                rotate_left
                · simp only [Act.put, List.setIfInBounds_toArray, List.set_cons_zero, List.set_cons_succ, i64_w, i32_w]
                  rfl
                refine pure_ (i := 4) (N := some 123) (v := ?_) (a' := ?_) #[true, true, true, true, true, false, false, false, false, false] rfl rfl (by kernel_rfl) (fun _ _ _ h => h) (Or.inl ⟨by rfl, ?_⟩) ?_ ?_
                rotate_left
                · intro w'
                  go_simp
                  first | done | with_reducible rfl
                rotate_left
                · simp only [Act.put, List.setIfInBounds_toArray, List.set_cons_zero, List.set_cons_succ, i64_w, i32_w]
                  rfl
                refine pure_ (i := 5) (N := some 124) (v := ?_) (a' := ?_) #[true, true, true, true, true, true, false, false, false, false] rfl rfl (by kernel_rfl) (fun _ _ _ h => h) (Or.inl ⟨by rfl, ?_⟩) ?_ ?_
                rotate_left
                · intro w'
                  go_simp
                  first | done | with_reducible rfl
                rotate_left
                · simp only [Act.put, List.setIfInBounds_toArray, List.set_cons_zero, List.set_cons_succ, i64_w, i32_w]
                  rfl
                refine take_ (i := 6) (N := some 125) (v := ?_) (a' := ?_) #[true, true, true, true, true, true, true, false, false, false] rfl rfl (by kernel_rfl) (fun _ _ _ h => h) (Or.inl ⟨by rfl, ?_⟩) hHeld ?_ ?_
                rotate_left
                · rintro w' ⟨s0, s1⟩
                  go_simp
                  first | done | with_reducible rfl
                rotate_left
                · simp only [Act.put, List.setIfInBounds_toArray, List.set_cons_zero, List.set_cons_succ, i64_w, i32_w]
                  rfl
                refine pure_ (i := 7) (N := some 126) (v := ?_) (a' := ?_) #[true, true, true, true, true, true, true, true, false, false] rfl rfl (by kernel_rfl) (fun _ _ _ h => h) (Or.inl ⟨by rfl, ?_⟩) ?_ ?_
                rotate_left
                · intro w'
                  go_simp
                  first | done | with_reducible rfl
                rotate_left
                · simp only [Act.put, List.setIfInBounds_toArray, List.set_cons_zero, List.set_cons_succ, i64_w, i32_w]
                  rfl
                refine tail_list 8 (t := [8, 9]) (fuel := 0) rfl rfl rfl (by kernel_rfl) (by decide) ?_
                go_wp2_with fail
                refine ⟨?_, ?measure2⟩
                case measure2 => simp [intOf]; omega
                repeat apply Exists.intro
                refine ⟨?rel2, rfl⟩
                rw [num_add]
                refine ⟨j + 1, by omega, by go_num, ?_, ?_, ?_⟩
                · have := HV.out.put j (a + b)
                  rw [HST.out] at this
                  exact this
                · exact HX.out.other ⟨vb, j, none⟩ (by show xb ≠ vb; omega) _
                · exact gb_drew (gb_setCell HG.out (Or.inl rfl) _)
            · obtain rfl : j = 8 := by omega
              have e : sums V y 8 = absorb (pad bs) (q + 1) := by
                rw [sums_8 _ _ hVl hyl, ← HYE.out, HT.out, HVE.out]
                rfl
              rw [e] at hv
              have HV := Lib.hid hv
              have HK7 := Lib.hid (HK6.out.grown hG (by omega))
              have HR7 := Lib.hid (HR6.out.grown hG (by omega))
              have HC8 := Lib.hid (show Kd.C (Kd.int .u8) wr A2 pl ((pad bs).map byt) from Kd.C_keep 0 HC7.out ⟨hG.size, fun i hi hne _ => hG.block i hi (fun e => hne (Option.some.inj e))⟩ HA2.out)
              have HB7 := Lib.hid (HB6.out.grown hG hszo (fun k e => by cases e; omega))
              clear e hv hG hx HK6 HR6 HC7 HB6
              go_wp2_with fail
              have hqq := HQA.out
              exact ⟨⟨q + 1, by omega, by go_num, HV.out, HK7.out, HR7.out, HC8.out, HB7.out⟩, by simp [intOf]; omega⟩
    · have hqe : (pad bs).length / 64 = q := by rw [← HPL.out]; omega
      obtain ⟨V, hVe⟩ : ∃ V, V = absorb (pad bs) q := ⟨_, rfl⟩
      have hVl : V.length = 8 := by rw [hVe]; exact absorb_length _ _
      have HV6 := Lib.hid (show ArrAt wr vb 87 V by rw [hVe]; exact HV.out)
      have HVE := Lib.hid (show sum bs = out V by rw [sum, hqe, hVe])
      have hq64' : ¬ ((64 * q : Nat) : Int) < (pl : Int) := by omega
      have hsz : rb ≤ wr.heap.size := Nat.le_of_lt lr
      clear hqe hVe HV
      go_wp2_with fail
      have hA : Below wr.heap.size wr (wr.alloc (.cells (bcells (List.replicate 32 0#8)) 63)) := (Below.refl _ _).alloc (Nat.le_refl _) _
      have HO := Lib.hid (show BAt (wr.alloc (.cells (bcells (List.replicate 32 0#8)) 63)) wr.heap.size 63 (List.replicate 32 0#8) from blk_new wr _)
      have lv2 := HV6.out.lt
      have lr2 := HR.out.lt
      have HV7 := Lib.hid (HV6.out.below' HV6.out.lt hA)
      have HR7 := Lib.hid (HR.out.below' HR.out.lt hA)
      have HB7 := Lib.hid (HB.out.trans (hA.mono hsz))
      clear hA HV6 HR HB HK
      generalize hob : wr.heap.size = ob at *
      clear hob
      go_loopw [16] (fun v wr => ∃ m : Nat, m ≤ 32 ∧ v = .int .i64 m ∧ ArrAt wr vb 87 V ∧ BAt wr rb 63 (List.replicate 32 0#8) ∧ BAt wr ob 63 (outs V m) ∧ Below rb w wr) (fun v _ => 32 - (intOf v).toNat)
      case atStart => exact ⟨0, by omega, rfl, HV7.out, HR7.out, by rw [outs_zero]; exact HO.out, HB7.out⟩
      case round =>
        obtain ⟨m, hm, rfl, hv, hr, ho, hB⟩ := hrel
        clear HV7 HR7 HO HB7
        have HV := Lib.hid hv
        have HR := Lib.hid hr
        have HO := Lib.hid ho
        have HB := Lib.hid hB
        by_cases hm32 : m < 32
        · have d1 : decide ((m : Int) < 32) = true := decide_eq_true (by omega)
          have g0 := (hv.get (m / 4) (by omega)).1
          have g1 := hv.lt
          obtain ⟨_, p1⟩ := ho.get m (by rw [outs_length _ _ hm]; exact hm32)
          have p2 := ho.lt
          have hm1 : (m : Int) < 32 := by omega
          clear hv hr ho hB
          go_wp2_with fail
          rw [show (num (V[m / 4]?.getD 0#32) / 2 ^ (24 - 8 * (m % 4)) % 256) = byt (outByte V m) by rw [byt_out, List.getD_eq_getElem?_getD, Nat.mul_comm 8 (m % 4)]; rfl]
          refine ⟨⟨m + 1, by omega, by go_num, HV.out.other ⟨ob, m, none⟩ (by show vb ≠ ob; omega) _, HR.out.other ⟨ob, m, none⟩ (by show rb ≠ ob; omega) _, ?_, HB.out.setCell (p := ⟨ob, m, none⟩) hsz _⟩, by simp [intOf]; omega⟩
          have := HO.out.put m (outByte V m)
          rw [outs_set _ _ hm32] at this
          exact this
        · obtain rfl : m = 32 := by omega
          have hrb := hr.lt
          clear hv hr ho hB
          go_wp2_with (first
            | refine wpList_load_row rfl (.tmp 15) 63 rfl ob rfl 63 (bcells (outs V 32)) (0, 0) _ HO.out (by rfl) rfl (by rw [bcells_size, outs_length _ _ (Nat.le_refl _)]; rfl) ?_
            | refine wpList_store_row rfl (.tmp 2) (.tmp 144) 63 rfl rb rfl (bcells (outs V 32)) rfl 63 (bcells (List.replicate 32 0#8)) HR.out (by rw [bcells_size, outs_length _ _ (Nat.le_refl _)]; rfl) (by rw [bcells_size, bcells_size, outs_length _ _ (Nat.le_refl _)]; rfl) (bcells_one _) rfl ?_)
          refine bodyPost_ret (results_row (P := Try.prog) (fn := Try.f38) (a := 2) (ty := 63) rfl _ rb rfl 63 _ (0, 0) _ HR.out.setRow (by rfl) rfl (by rw [bcells_size, outs_length _ _ (Nat.le_refl _)]; rfl)) rfl ⟨?_, (below_setRow HB.out (Nat.le_refl _) _).mono (Nat.le_of_eq HRB.out)⟩
          rw [HVE.out, ← outs_all]
end Go.Proofs.Ytnjdighpdcabcaa
/- The walk of the reference's Name. -/
set_option linter.unusedVariables false
set_option linter.unusedSimpArgs false
namespace Go.Proofs.Ytnjdighpdcabcaa
open Go.RowKit Go.Proofs.YtnjdighpdcabcaaW.PrintWords Go.Proofs.YtnjdighpdcabcaaW.PrintLast

def ints (l : List UInt8) : List Int := l.map fun b => (b.toNat : Int)
theorem infoU8S : (Try.prog.info? 5).map (fun i => (i.zero, i.size, i.bytes)) = some (some (.int .u8 0), 1, 1) := by kernel_rfl

theorem strOf_ints (l : List UInt8) : strOfNums (ints l) = ⟨l.toArray⟩ := by
  unfold strOfNums ints
  congr 2
  rw [List.map_map]
  apply List.ext_getElem?
  intro i
  simp
  cases l[i]? <;> simp
set_option maxRecDepth 100000 in
set_option maxHeartbeats 4000000 in
theorem name_ref (cp : Nat) (A : Option Addr) (bs : List (BitVec 8)) (w : World)
    (hb : Kd.C (Kd.int .u8) w A bs.length (bs.map byt)) (hc : bs.length ≤ cp) (hl : bs.length < 1000000000) :
    Calls Try.prog 17 #[.slice A bs.length cp] w fun e w' =>
      e = .returned (.string (name bs)) ∧ Below w.heap.size w w' := by
  have HC := Lib.hid hb
  clear hb
  go_enter Try.func17, Try.ntmps17
  go_wp2_with fail
  refine (sum_ref cp A bs _ HC.out hc hl).mono ?_
  rintro e w1 ⟨rfl, hB⟩
  obtain ⟨S, hSe⟩ : ∃ S, S = sum bs := ⟨_, rfl⟩
  have hSl : S.length = 32 := by rw [hSe]; exact out_length _
  have HS := Lib.hid hSe
  have HB := Lib.hid hB
  rw [← hSe]
  clear hSe hB
  go_wp2_with (refine wpList_store_row rfl (.tmp 4) (.tmp 8) 63 rfl w1.heap.size rfl (bcells S) rfl 63 (bcells (List.replicate 32 0#8)) (blk_new w1 _) (by rw [bcells_size, hSl]; rfl) (by rw [bcells_size, bcells_size, hSl]; rfl) (bcells_one _) rfl ?_)
  obtain ⟨w2, hw2⟩ : ∃ w2, w2 = (w1.alloc (.cells (bcells (List.replicate 32 0#8)) 63)).setRow w1.heap.size (bcells S) := ⟨_, rfl⟩
  have ht2 : BAt w2 w1.heap.size 63 S := by rw [hw2]; exact setRow_heap _ _ (bcells (List.replicate 32 0#8)) _ _ _ (blk_new w1 _)
  have hB2 : Below w1.heap.size w1 w2 := by rw [hw2]; exact below_setRow ((Below.refl _ _).alloc (Nat.le_refl _) _) (Nat.le_refl _) _
  have HB2 := Lib.hid (HB.out.trans (hB2.mono HB.out.size))
  have htlt := ht2.lt
  have HT := Lib.hid ht2
  have HW2 := Lib.hid hw2
  clear hB2 ht2 hw2 HB
  generalize htb : w1.heap.size = tb at *
  clear htb
  go_loopw [6, 5] (fun v v5 wr => ∃ i : Nat, i ≤ 32 ∧ v = .int .i64 i ∧ Kd.R (Kd.int .u8) 5 wr w2.heap.size (fun _ => True) v5 (ints (hexL (S.take i))) ∧ Below w2.heap.size w2 wr) (fun v _ _ => 32 - (intOf v).toNat)
  case atStart => exact ⟨0, by omega, rfl, Kd.R_nil _ _ _ _ _, (congrArg (Below w2.heap.size w2) HW2.out).mp (Below.refl _ _)⟩
  case round =>
    obtain ⟨i, hi, rfl, hR, hB⟩ := hrel
    clear HW2
    by_cases hi32 : i < 32
    · have d1 : decide ((i : Int) < 32) = true := decide_eq_true (by omega)
      have hi1 : (i : Int) < 32 := by omega
      obtain ⟨v0, c0, rfl⟩ := Kd.R_slice hR
      have hlen : (ints (hexL (S.take i))).length = 2 * i := by rw [ints, List.length_map, hexL_length, List.length_take]; omega
      obtain ⟨c, hc0⟩ : ∃ c, c = S.getD i 0 := ⟨_, rfl⟩
      obtain ⟨n, hn⟩ : ∃ n : Nat, n = c.toNat := ⟨_, rfl⟩
      have hn256 : n < 256 := by rw [hn]; exact c.isLt
      have hcell : ∀ w', Below w2.heap.size w2 w' → w'.cell? ⟨tb, i, none⟩ = some (.int .u8 (n : Int)) := by
        intro w' hB
        have := ((HT.out.below' htlt hB).get i (by omega)).1
        rw [← hc0, show byt c = (n : Int) by rw [hn]; rfl] at this
        exact this
      have hS := hcell wr hB
      have HCELL := Lib.hid hcell
      clear hcell
      have HCC := Lib.hid hc0
      have HN := Lib.hid hn
      have HR := Lib.hid hR
      have HB := Lib.hid hB
      have HLEN := Lib.hid hlen
      have htw := (HT.out.below' htlt hB).lt
      clear hc0 hn hR hB hlen
      obtain ⟨lo, hlo, hloe⟩ : ∃ lo : Nat, lo < 16 ∧ lo = n % 16 := ⟨_, Nat.mod_lt _ (by decide), rfl⟩
      obtain ⟨hh, hhi, hhe⟩ : ∃ hh : Nat, hh < 16 ∧ hh = n / 16 := ⟨_, by omega, rfl⟩
      have HTM := Lib.hid (show Int.tmod (n : Int) 16 = (lo : Int) by rw [hloe]; rfl)
      have HTD := Lib.hid (show (n : Int) / 16 = (hh : Int) by rw [hhe]; rfl)
      have HWD := Lib.hid (show IntKind.u8.wrap (hh : Int) = (hh : Int) by simp only [IntKind.wrap, IntKind.bits, IntKind.signed]; simp; omega)
      have HLO := Lib.hid hloe
      have HHE := Lib.hid hhe
      have hlo1 : (lo : Int) < 16 := by omega
      have hhi1 : (hh : Int) < 16 := by omega
      clear hloe hhe
      go_upto_region 7 with (fail)
      refine start_ (S := fun w' => w'.cell? ⟨tb, i, none⟩ = some (.int .u8 (n : Int))) (ds := [15]) (n := 16) #[false, false, false, false, false, false, false, false, false, false, false, false, false, false, false, false] rfl rfl rfl ?hS0 (fun hHeld => ?hrun)
      case hS0 => exact hS
      case hrun =>
        refine pure_ (i := 0) (N := some 13) (v := ?_) (a' := ?_) #[true, false, false, false, false, false, false, false, false, false, false, false, false, false, false, false] rfl rfl (by kernel_rfl) (fun _ _ _ h => h) (Or.inl ⟨by rfl, ?_⟩) ?_ ?_
        rotate_left
        · intro w'
          go_simp
          first | done | with_reducible rfl
        rotate_left
        · simp only [Act.put, List.setIfInBounds_toArray, List.set_cons_zero, List.set_cons_succ, i64_w, i32_w]
          rfl
        refine pure_ (i := 1) (N := some 14) (v := ?_) (a' := ?_) #[true, true, false, false, false, false, false, false, false, false, false, false, false, false, false, false] rfl rfl (by kernel_rfl) (fun _ _ _ h => h) (Or.inl ⟨by rfl, ?_⟩) ?_ ?_
        rotate_left
        · intro w'
          go_simp
          first | done | with_reducible rfl
        rotate_left
        · simp only [Act.put, List.setIfInBounds_toArray, List.set_cons_zero, List.set_cons_succ, i64_w, i32_w]
          rfl
        refine pure_ (i := 2) (N := some 15) (v := ?_) (a' := ?_) #[true, true, true, false, false, false, false, false, false, false, false, false, false, false, false, false] rfl rfl (by kernel_rfl) (fun _ _ _ h => h) (Or.inl ⟨by rfl, ?_⟩) ?_ ?_
        rotate_left
        · intro w'
          go_simp
          first | done | with_reducible rfl
        rotate_left
        · simp only [Act.put, List.setIfInBounds_toArray, List.set_cons_zero, List.set_cons_succ, i64_w, i32_w]
          rfl
        refine pure_ (i := 3) (N := some 16) (v := ?_) (a' := ?_) #[true, true, true, true, false, false, false, false, false, false, false, false, false, false, false, false] rfl rfl (by kernel_rfl) (fun _ _ _ h => h) (Or.inl ⟨by rfl, ?_⟩) ?_ ?_
        rotate_left
        · intro w'
          go_simp
          first | done | with_reducible rfl
        rotate_left
        · simp only [Act.put, List.setIfInBounds_toArray, List.set_cons_zero, List.set_cons_succ, i64_w, i32_w]
          rfl
        refine take_ (i := 4) (N := some 17) (v := ?_) (a' := ?_) #[true, true, true, true, true, false, false, false, false, false, false, false, false, false, false, false] rfl rfl (by kernel_rfl) (fun _ _ _ h => h) (Or.inl ⟨by rfl, ?_⟩) hHeld ?_ ?_
        rotate_left
        · rintro w' s0
          go_simp
          first | done | with_reducible rfl
        rotate_left
        · simp only [Act.put, List.setIfInBounds_toArray, List.set_cons_zero, List.set_cons_succ, i64_w, i32_w]
          rfl
        refine pure_ (i := 5) (N := some 18) (v := ?_) (a' := ?_) #[true, true, true, true, true, true, false, false, false, false, false, false, false, false, false, false] rfl rfl (by kernel_rfl) (fun _ _ _ h => h) (Or.inl ⟨by rfl, ?_⟩) ?_ ?_
        rotate_left
        · intro w'
          go_simp; rw [HTD.out, HWD.out]
          first | done | with_reducible rfl
        rotate_left
        · simp only [Act.put, List.setIfInBounds_toArray, List.set_cons_zero, List.set_cons_succ, i64_w, i32_w]
          rfl
        refine pure_ (i := 6) (N := some 19) (v := ?_) (a' := ?_) #[true, true, true, true, true, true, true, false, false, false, false, false, false, false, false, false] rfl rfl (by kernel_rfl) (fun _ _ _ h => h) (Or.inl ⟨by rfl, ?_⟩) ?_ ?_
        rotate_left
        · intro w'
          go_simp
          first | done | with_reducible rfl
        rotate_left
        · simp only [Act.put, List.setIfInBounds_toArray, List.set_cons_zero, List.set_cons_succ, i64_w, i32_w]
          rfl
        refine pure_ (i := 7) (N := some 20) (v := ?_) (a' := ?_) #[true, true, true, true, true, true, true, true, false, false, false, false, false, false, false, false] rfl rfl (by kernel_rfl) (fun _ _ _ h => h) (Or.inl ⟨by rfl, ?_⟩) ?_ ?_
        rotate_left
        · intro w'
          go_simp
          first | done | with_reducible rfl
        rotate_left
        · simp only [Act.put, List.setIfInBounds_toArray, List.set_cons_zero, List.set_cons_succ, i64_w, i32_w]
          rfl
        refine pure_ (i := 8) (N := some 21) (v := ?_) (a' := ?_) #[true, true, true, true, true, true, true, true, true, false, false, false, false, false, false, false] rfl rfl (by kernel_rfl) (fun _ _ _ h => h) (Or.inl ⟨by rfl, ?_⟩) ?_ ?_
        rotate_left
        · intro w'
          go_simp
          first | done | with_reducible rfl
        rotate_left
        · simp only [Act.put, List.setIfInBounds_toArray, List.set_cons_zero, List.set_cons_succ, i64_w, i32_w]
          rfl
        refine pure_ (i := 9) (N := some 22) (v := ?_) (a' := ?_) #[true, true, true, true, true, true, true, true, true, true, false, false, false, false, false, false] rfl rfl (by kernel_rfl) (fun _ _ _ h => h) (Or.inl ⟨by rfl, ?_⟩) ?_ ?_
        rotate_left
        · intro w'
          go_simp
          first | done | with_reducible rfl
        rotate_left
        · simp only [Act.put, List.setIfInBounds_toArray, List.set_cons_zero, List.set_cons_succ, i64_w, i32_w]
          rfl
        refine take_ (i := 10) (N := some 23) (v := ?_) (a' := ?_) #[true, true, true, true, true, true, true, true, true, true, true, false, false, false, false, false] rfl rfl (by kernel_rfl) (fun _ _ _ h => h) (Or.inl ⟨by rfl, ?_⟩) hHeld ?_ ?_
        rotate_left
        · rintro w' s0
          go_simp
          first | done | with_reducible rfl
        rotate_left
        · simp only [Act.put, List.setIfInBounds_toArray, List.set_cons_zero, List.set_cons_succ, i64_w, i32_w]
          rfl
        refine pure_ (i := 11) (N := some 24) (v := ?_) (a' := ?_) #[true, true, true, true, true, true, true, true, true, true, true, true, false, false, false, false] rfl rfl (by kernel_rfl) (fun _ _ _ h => h) (Or.inl ⟨by rfl, ?_⟩) ?_ ?_
        rotate_left
        · intro w'
          go_simp; rw [HTM.out]
          first | done | with_reducible rfl
        rotate_left
        · simp only [Act.put, List.setIfInBounds_toArray, List.set_cons_zero, List.set_cons_succ, i64_w, i32_w]
          rfl
        refine pure_ (i := 12) (N := some 25) (v := ?_) (a' := ?_) #[true, true, true, true, true, true, true, true, true, true, true, true, true, false, false, false] rfl rfl (by kernel_rfl) (fun _ _ _ h => h) (Or.inl ⟨by rfl, ?_⟩) ?_ ?_
        rotate_left
        · intro w'
          go_simp
          first | done | with_reducible rfl
        rotate_left
        · simp only [Act.put, List.setIfInBounds_toArray, List.set_cons_zero, List.set_cons_succ, i64_w, i32_w]
          rfl
        refine one_ (i := 13) (N := some 26) #[true, true, true, true, true, true, true, true, true, true, true, true, true, true, false, false] rfl rfl (by kernel_rfl) (by decide) (fun K hK => ?_)
        refine value_ (by rfl) rfl (by go_simp; first | rfl | exact ⟨rfl, rfl⟩) ?_
        refine hK.out _ _ (HCELL.out _ ((HB.out.drew).alloc HB.out.size _)) (fun hHeld1 => ?_)
        clear hK K
        refine norm_ (a' := ?_) ?_ ?_
        rotate_left
        · show Act.put _ (some 26) _ = _
          simp only [Act.put, List.setIfInBounds_toArray, List.set_cons_zero, List.set_cons_succ, i64_w, i32_w]
          rfl
        refine one_ (i := 14) (N := some 27) #[true, true, true, true, true, true, true, true, true, true, true, true, true, true, true, false] rfl rfl (by kernel_rfl) (by decide) (fun K hK => ?_)
        refine Kd.R_append_rows_step (w0 := w2) (Kd.int .u8) (Rr := fun x cs => cs = [.int .u8 x]) w2.heap.size (by rfl) _ _ 32 5 (.int .u8 0) 1 (by rfl) Try.underlying32 infoU8S rfl (by decide) (by decide) (.slice v0 (ints (hexL (S.take i))).length c0) (ints (hexL (S.take i))) [((dig hh).toNat : Int), ((dig lo).toNat : Int)] (some ⟨wr.heap.size, 0, none⟩) 2 2 (fun _ => True) (fun _ => False) (by rfl) (by rfl) ?ho ?hr (fun x cs h => h) (fun _ h => h.elim) (fun _ _ => trivial) ?hb ?hbase ?hl ?hk
        case ho => exact Kd.R_below HR.out (((Below.refl _ _).drew).alloc (Nat.le_refl _) _)
        case hr =>
          refine ⟨rfl, by decide, fun _ => ⟨_, rfl, fun j p hj => ?_⟩⟩
          have hbk := blk_new (wr.drew) (.cells #[.int .u8 ((dig hh).toNat : Int), .int .u8 ((dig lo).toNat : Int)] 5)
          rw [dig_at, dig_at]
          match j, hj with
          | 0, hj =>
            obtain rfl := Option.some.inj hj
            refine ⟨[.int .u8 _], rfl, rfl, fun k u hk => ?_⟩
            match k, hk with
            | 0, hk =>
              obtain rfl := Option.some.inj hk
              exact (Lib.cell_of_heap hbk 0).trans rfl
          | 1, hj =>
            obtain rfl := Option.some.inj hj
            refine ⟨[.int .u8 _], rfl, rfl, fun k u hk => ?_⟩
            match k, hk with
            | 0, hk =>
              obtain rfl := Option.some.inj hk
              exact (Lib.cell_of_heap hbk 1).trans rfl
        case hb => exact (HB.out.drew).alloc HB.out.size _
        case hbase => have := HB.out.size; simp; omega
        case hl => rw [HLEN.out]; omega
        intro v1 w3 hR1 hBB hg1 hat1
        have e : ints (hexL (S.take i)) ++ [((dig hh).toNat : Int), ((dig lo).toNat : Int)] = ints (hexL (S.take (i + 1))) := by
          rw [hexL_take S i (by omega), ← HCC.out, ← HN.out, ← HHE.out, ← HLO.out]
          simp [ints]
        rw [e] at hR1
        obtain ⟨A1, c1, rfl⟩ := Kd.R_slice hR1
        have hS1 := HCELL.out _ hBB
        have HR1 := Lib.hid hR1
        have HB1 := Lib.hid hBB
        clear e hR1 hBB hg1 hat1
        refine hK.out _ _ hS1 (fun hHeld2 => ?_)
        clear hK K
        refine norm_ (a' := ?_) ?_ ?_
        rotate_left
        · show Act.put _ (some 27) _ = _
          simp only [Act.put, List.setIfInBounds_toArray, List.set_cons_zero, List.set_cons_succ, i64_w, i32_w]
          rfl
        refine tail_list 15 (t := [15]) (fuel := 0) rfl rfl rfl (by kernel_rfl) (by decide) ?_
        go_wp2_with fail
        exact ⟨⟨i + 1, by omega, by go_num, HR1.out, HB1.out⟩, by simp [intOf]; omega⟩
    · obtain rfl : i = 32 := by omega
      have hR0 := hR
      rw [List.take_of_length_le (by omega)] at hR0
      obtain ⟨A1, c1, rfl, hc1, hC1, _⟩ := R_addr hR0
      have hrun := Kd.C_string (P := Try.prog) (w := wr) (src := 32) (dst := 9) (e := 5) (A := A1) (n := (ints (hexL S)).length) (c := c1) (by rfl) (by rfl) (by rfl) hC1
      have HRUN := Lib.hid hrun
      have HB3 := Lib.hid hB
      clear hrun hC1 hR hR0 hB
      go_wp2_with fail
      rw [HRUN.out]
      go_wp2_with fail
      go_ret
      refine ⟨?_, below_then HB2.out HB2.out.size HB3.out⟩
      rw [name, ← HS.out, strOf_ints]
      rfl
end Go.Proofs.Ytnjdighpdcabcaa
