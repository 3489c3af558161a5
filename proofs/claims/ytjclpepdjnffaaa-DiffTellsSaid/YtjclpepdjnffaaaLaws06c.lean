/- DiffTells' contract. -/
import Derived.Test.YtjclpepdjnffaaaDiffI
import Derived.Test.YtjclpepdjnffaaaDiffW7
set_option linter.unusedVariables false
set_option linter.unusedSimpArgs false
namespace Go.Proofs.Ytjclpepdjnffaaa
open Go.RowKit Go.Proofs.YtjclpepdjnffaaaW.PrintWords Go.Proofs.YtjclpepdjnffaaaW.PrintLast Go.Proofs.Ytjclpepdjnffaaa.PDiffTells

set_option maxRecDepth 100000 in
set_option maxHeartbeats 16000000 in
theorem tells_law (w : World) (xa : List ByteArray) (Aa : Option Addr) (na ca : Nat) (ha : (Kd.slice 9 Kd.string).K w xa [.slice Aa na ca]) (ga0 : goodL xa) (xb : List ByteArray) (Ab : Option Addr) (nb cb : Nat) (hb : (Kd.slice 9 Kd.string).K w xb [.slice Ab nb cb]) (gb0 : goodL xb) (hk : S24) (cs : Array Value) (h2 : k24.K w hk cs.toList) (g2 : goodH hk) :
    Calls Try.prog 3 #[.slice Aa na ca, .slice Ab nb cb, .agg cs] w fun e w' => e = .returned (.bool true) ∧ Below w.heap.size w w' := by
  obtain ⟨rfl, hca, hCa⟩ := lines_open ha
  have ga := goodL_lt ga0
  have HCa := Lib.hid hCa
  obtain ⟨na, hna⟩ : ∃ n, n = xa.length := ⟨_, rfl⟩
  rw [← hna] at hca ga HCa ⊢
  have HLa := Lib.hid hna.symm
  clear ha ga0 hCa hna
  obtain ⟨rfl, hcb, hCb⟩ := lines_open hb
  have gb := goodL_lt gb0
  have HCb := Lib.hid hCb
  obtain ⟨nb, hnb⟩ : ∃ n, n = xb.length := ⟨_, rfl⟩
  rw [← hnb] at hcb gb HCb ⊢
  have HLb := Lib.hid hnb.symm
  clear hb gb0 hCb hnb
  obtain ⟨Ao, co, An, cn, rfl, hco, hO, hcn, hN⟩ := hunk_open h2
  have go := goodL_lt g2.2.1
  have gn := goodL_lt g2.2.2
  obtain ⟨p, old, new⟩ := hk
  simp only at hco hO hcn hN go gn ⊢
  have HO := Lib.hid hO
  have HN := Lib.hid hN
  obtain ⟨no, hno⟩ : ∃ no, no = old.length := ⟨_, rfl⟩
  obtain ⟨nn, hnn⟩ : ∃ nn, nn = new.length := ⟨_, rfl⟩
  rw [← hno] at hco go HO ⊢
  rw [← hnn] at hcn gn HN ⊢
  have HL := Lib.hid (And.intro hno.symm hnn.symm)
  clear h2 g2 hO hN hno hnn
  go_enter Try.func3, Try.ntmps3
  go_wp2_with fail
  have hst := HSt.start w p Ao no co An nn cn
  obtain ⟨hb, hhb⟩ : ∃ hb, hb = w.heap.size := ⟨_, rfl⟩
  refine (head_any _).mono ?_
  rintro e w1 ⟨rfl, hB⟩
  have HS1 := Lib.hid (hst.below hB)
  rw [← hhb] at HS1 ⊢
  clear hst hB hhb
  go_wp2_with fail
  obtain ⟨r, hr, hcall⟩ := great_n na nb ca cb xa xb Aa Ab w1 HLa.out HLb.out (Kd.C_below HCa.out HS1.out.bel) hca (Kd.C_below HCb.out HS1.out.bel) hcb ga gb
  refine hcall.mono ?_
  clear hcall
  rintro e w2 ⟨rfl, hB⟩
  have HS2 := Lib.hid (HS1.out.below hB)
  clear hB HS1
  cases r with
  | true =>
    clear hr
    go_wp2_with fail
    go_ret
    exact ⟨rfl, HS2.out.bel⟩
  | false =>
    obtain ⟨ba, bb⟩ := hr rfl
    clear hr
    obtain ⟨k0, k1, k2, kl⟩ := HS2.out.cells
    go_wp2_with fail
    obtain ⟨r, hr, hcall⟩ := greatHunk_n p no nn co cn old new Ao An w2 HL.out.1 HL.out.2 (Kd.C_below HO.out HS2.out.bel) hco (Kd.C_below HN.out HS2.out.bel) hcn go gn
    refine hcall.mono ?_
    clear hcall
    rintro e w3 ⟨rfl, hB⟩
    have HS3 := Lib.hid (HS2.out.below hB)
    clear hB HS2 k0 k1 k2 kl
    cases r with
    | true =>
      clear hr
      go_wp2_with fail
      go_ret
      exact ⟨rfl, HS3.out.bel⟩
    | false =>
      obtain ⟨ho200, hn200⟩ := hr rfl
      clear hr
      have hlen := hunks_length xa xb
      have hco' := hunks_costs xa xb
      rw [HLa.out, HLb.out] at hlen hco'
      have hlen' : (hunks xa xb).length ≤ 1200 := by omega
      have HHS := Lib.hid (And.intro hlen' hco')
      clear hlen hco' hlen'
      go_wp2_with fail
      refine (diff_n na nb w3 _ _ _ _ xa xb HLa.out HLb.out (Kd.C_below HCa.out HS3.out.bel) (Kd.C_below HCb.out HS3.out.bel) (by omega)).mono ?_
      rintro e w4 ⟨v, vo, vn, rfl, hH, hB⟩
      have HS4 := Lib.hid (HS3.out.below hB)
      obtain ⟨Ax, cx, rfl, hcx, hCx⟩ := hH.C (by have := HHS.out.1; omega)
      obtain ⟨nh, hnh⟩ : ∃ n, n = (hunks xa xb).length := ⟨_, rfl⟩
      rw [← hnh] at hcx hCx ⊢
      have HNH := Lib.hid hnh.symm
      have HX4 := Lib.hid hCx
      clear hB HS3 hCx hH hnh
      go_wp2_with fail
      refine (rdiff_n na nb w4 _ _ _ _ xa xb HLa.out HLb.out (Kd.C_below HCa.out HS4.out.bel) (Kd.C_below HCb.out HS4.out.bel) (by omega)).mono ?_
      rintro e w5 ⟨v, vo', vn', rfl, hH, hB⟩
      have HS5 := Lib.hid (HS4.out.below hB)
      have HX5 := Lib.hid (Kd.C_below HX4.out hB)
      obtain ⟨Ay, cy, rfl, hcy, hCy⟩ := hH.C (by have := HHS.out.1; omega)
      rw [HNH.out] at hcy hCy ⊢
      have HY5 := Lib.hid hCy
      have hnh : nh ≤ 1200 := by rw [← HNH.out]; exact HHS.out.1
      clear hB HS4 HX4 hCy hH
      obtain ⟨k0, k1, k2, kl⟩ := HS5.out.cells
      go_wp2_with fail
      refine (apply_n na no nn ca co cn w5 Aa Ao An xa old new p HLa.out HL.out.1 HL.out.2 (Kd.C_below HCa.out HS5.out.bel) hca (Kd.C_below HO.out HS5.out.bel) hco (Kd.C_below HN.out HS5.out.bel) hcn (by omega) (by omega) (by omega)).mono ?_
      rintro e w6 ⟨v, rfl, hR, hB⟩
      have HS6 := Lib.hid (HS5.out.below hB)
      have HX6 := Lib.hid (Kd.C_below HX5.out hB)
      have HY6 := Lib.hid (Kd.C_below HY5.out hB)
      have hzl : ((appliedI xa p old new).getD []).length ≤ 1200 := applied_len xa old new p (by rw [HLa.out, HL.out.2]; omega)
      obtain ⟨Au, cu, rfl, hcu, hCu, _⟩ := R_addr hR
      obtain ⟨nz, hnz⟩ : ∃ n, n = ((appliedI xa p old new).getD []).length := ⟨_, rfl⟩
      rw [← hnz] at hcu hCu hzl ⊢
      have HZ := Lib.hid hnz.symm
      have HU6 := Lib.hid hCu
      clear hB HS5 HX5 HY5 hR hCu hnz k0 k1 k2 kl
      obtain ⟨k0, k1, k2, kl⟩ := HS6.out.cells
      go_wp2_with fail
      refine (rapply_n na no nn ca co cn w6 Aa Ao An xa old new p HLa.out HL.out.1 HL.out.2 (Kd.C_below HCa.out HS6.out.bel) hca (Kd.C_below HO.out HS6.out.bel) hco (Kd.C_below HN.out HS6.out.bel) hcn (by omega) (by omega) (by omega)).mono ?_
      rintro e w7 ⟨v, rfl, hR, hB⟩
      have HS7 := Lib.hid (HS6.out.below hB)
      have HX7 := Lib.hid (Kd.C_below HX6.out hB)
      have HY7 := Lib.hid (Kd.C_below HY6.out hB)
      have HU7 := Lib.hid (Kd.C_below HU6.out hB)
      obtain ⟨Av, cv, rfl, hcv, hCv, _⟩ := R_addr hR
      rw [HZ.out] at hcv hCv ⊢
      have HV7 := Lib.hid hCv
      have HO7 := Lib.hid (Kd.C_below HO.out HS7.out.bel)
      have HN7 := Lib.hid (Kd.C_below HN.out HS7.out.bel)
      generalize hbs : (appliedI xa p old new).isSome = bs at *
      generalize hzz : (appliedI xa p old new).getD [] = zs at *
      generalize hhs : hunks xa xb = hs at *
      have hkc : costsS [(⟨p, old, new⟩ : S24)] < 1000000 := by
        have : costsS [(⟨p, old, new⟩ : S24)] = old.length + new.length := by simp [costsS]
        rw [this, HL.out.1, HL.out.2]
        omega
      have HKC := Lib.hid hkc
      clear hB HS6 HX6 HY6 HU6 hR hCv hkc hbs hzz hhs k0 k1 k2 kl HO HN HCa HCb
      go_wp2_with fail
      refine start_ (S := fun w' => keepT w7 w' hb (.int .i64 p) (.slice Ao no co) (.slice An nn cn)) (ds := [30, 31, 32]) (n := 33) #[false, false, false, false, false, false, false, false, false, false, false, false, false, false, false, false, false, false, false, false, false, false, false, false, false, false, false, false, false, false, false, false, false] rfl rfl rfl ?hS0 (fun hHeld => ?hrun)
      case hS0 => exact keepT_below HS7.out.keep ((Below.refl _ _).drew)
      case hrun =>
        refine pure_ (i := 0) (N := some 41) (v := ?_) (a' := ?_) #[true, false, false, false, false, false, false, false, false, false, false, false, false, false, false, false, false, false, false, false, false, false, false, false, false, false, false, false, false, false, false, false, false] rfl rfl (by kernel_rfl) (fun _ _ _ h => h) (Or.inl ⟨by rfl, ?_⟩) ?_ ?_
        rotate_left
        · intro w'
          go_simp
          first | done | with_reducible rfl
        rotate_left
        · simp only [Act.put, List.setIfInBounds_toArray, List.set_cons_zero, List.set_cons_succ, i64_w, i32_w]
          rfl
        refine pure_ (i := 1) (N := some 42) (v := ?_) (a' := ?_) #[true, true, false, false, false, false, false, false, false, false, false, false, false, false, false, false, false, false, false, false, false, false, false, false, false, false, false, false, false, false, false, false, false] rfl rfl (by kernel_rfl) (fun _ _ _ h => h) (Or.inl ⟨by rfl, ?_⟩) ?_ ?_
        rotate_left
        · intro w'
          go_simp
          first | done | with_reducible rfl
        rotate_left
        · simp only [Act.put, List.setIfInBounds_toArray, List.set_cons_zero, List.set_cons_succ, i64_w, i32_w]
          rfl
        refine pure_ (i := 2) (N := some 43) (v := ?_) (a' := ?_) #[true, true, true, false, false, false, false, false, false, false, false, false, false, false, false, false, false, false, false, false, false, false, false, false, false, false, false, false, false, false, false, false, false] rfl rfl (by kernel_rfl) (fun _ _ _ h => h) (Or.inl ⟨by rfl, ?_⟩) ?_ ?_
        rotate_left
        · intro w'
          go_simp
          first | done | with_reducible rfl
        rotate_left
        · simp only [Act.put, List.setIfInBounds_toArray, List.set_cons_zero, List.set_cons_succ, i64_w, i32_w]
          rfl
        refine pure_ (i := 3) (N := some 44) (v := ?_) (a' := ?_) #[true, true, true, true, false, false, false, false, false, false, false, false, false, false, false, false, false, false, false, false, false, false, false, false, false, false, false, false, false, false, false, false, false] rfl rfl (by kernel_rfl) (fun _ _ _ h => h) (Or.inl ⟨by rfl, ?_⟩) ?_ ?_
        rotate_left
        · intro w'
          go_simp
          first | done | with_reducible rfl
        rotate_left
        · simp only [Act.put, List.setIfInBounds_toArray, List.set_cons_zero, List.set_cons_succ, i64_w, i32_w]
          rfl
        refine one_ (i := 4) (N := some 45) #[true, true, true, true, true, false, false, false, false, false, false, false, false, false, false, false, false, false, false, false, false, false, false, false, false, false, false, false, false, false, false, false, false] rfl rfl (by kernel_rfl) (by decide) (fun K hK => ?_)
        refine goes_ Try.func16 (by kernel_rfl) rfl #[.slice Ax nh cx, .slice Ay nh cy] (by rfl) rfl rfl (by (try simp only [List.map_toArray, List.map_cons, List.map_nil]); first | done | rfl) ?_
        refine (same_n nh cx cy 10000 Ax Ay hs _ HNH.out (Kd.C_below HX7.out (keepT_b hHeld)) hcx (Kd.C_below HY7.out (keepT_b hHeld)) hcy (by omega) (by have := HHS.out.2; omega) (by decide)).mono ?_
        rintro e w8 ⟨rfl, hB⟩
        refine ⟨_, rfl, ?_⟩
        refine hK.out _ _ (keepT_below hHeld hB) (fun hHeld1 => ?_)
        clear hK K
        refine norm_ (a' := ?_) ?_ ?_
        rotate_left
        · show Act.put _ (some 45) _ = _
          simp only [Act.put, List.setIfInBounds_toArray, List.set_cons_zero, List.set_cons_succ, i64_w, i32_w]
          rfl
        refine pure_ (i := 5) (N := some 46) (v := ?_) (a' := ?_) #[true, true, true, true, true, true, false, false, false, false, false, false, false, false, false, false, false, false, false, false, false, false, false, false, false, false, false, false, false, false, false, false, false] rfl rfl (by kernel_rfl) (fun _ _ _ h => h) (Or.inl ⟨by rfl, ?_⟩) ?_ ?_
        rotate_left
        · intro w'
          go_simp
          first | done | with_reducible rfl
        rotate_left
        · simp only [Act.put, List.setIfInBounds_toArray, List.set_cons_zero, List.set_cons_succ, i64_w, i32_w]
          rfl
        refine pure_ (i := 6) (N := some 47) (v := ?_) (a' := ?_) #[true, true, true, true, true, true, true, false, false, false, false, false, false, false, false, false, false, false, false, false, false, false, false, false, false, false, false, false, false, false, false, false, false] rfl rfl (by kernel_rfl) (fun _ _ _ h => h) (Or.inl ⟨by rfl, ?_⟩) ?_ ?_
        rotate_left
        · intro w'
          go_simp
          first | done | with_reducible rfl
        rotate_left
        · simp only [Act.put, List.setIfInBounds_toArray, List.set_cons_zero, List.set_cons_succ, i64_w, i32_w]
          rfl
        refine pure_ (i := 7) (N := some 48) (v := ?_) (a' := ?_) #[true, true, true, true, true, true, true, true, false, false, false, false, false, false, false, false, false, false, false, false, false, false, false, false, false, false, false, false, false, false, false, false, false] rfl rfl (by kernel_rfl) (fun _ _ _ h => h) (Or.inl ⟨by rfl, ?_⟩) ?_ ?_
        rotate_left
        · intro w'
          go_simp
          first | done | with_reducible rfl
        rotate_left
        · simp only [Act.put, List.setIfInBounds_toArray, List.set_cons_zero, List.set_cons_succ, i64_w, i32_w]
          rfl
        refine pure_ (i := 8) (N := some 49) (v := ?_) (a' := ?_) #[true, true, true, true, true, true, true, true, true, false, false, false, false, false, false, false, false, false, false, false, false, false, false, false, false, false, false, false, false, false, false, false, false] rfl rfl (by kernel_rfl) (fun _ _ _ h => h) (Or.inl ⟨by rfl, ?_⟩) ?_ ?_
        rotate_left
        · intro w'
          go_simp
          first | done | with_reducible rfl
        rotate_left
        · simp only [Act.put, List.setIfInBounds_toArray, List.set_cons_zero, List.set_cons_succ, i64_w, i32_w]
          rfl
        refine one_ (i := 9) (N := some 50) #[true, true, true, true, true, true, true, true, true, true, false, false, false, false, false, false, false, false, false, false, false, false, false, false, false, false, false, false, false, false, false, false, false] rfl rfl (by kernel_rfl) (by decide) (fun K hK => ?_)
        refine goes_ Try.func17 (by kernel_rfl) rfl #[.slice Au nz cu, .slice Av nz cv] (by rfl) rfl rfl (by (try simp only [List.map_toArray, List.map_cons, List.map_nil]); first | done | rfl) ?_
        refine (lsame_n nz nz cu cv zs zs Au Av _ HZ.out HZ.out (Kd.C_below HU7.out (keepT_b hHeld1)) hcu (Kd.C_below HV7.out (keepT_b hHeld1)) hcv (by omega)).mono ?_
        rw [decide_eq_true rfl]
        rintro e w9 ⟨rfl, hB⟩
        clear hHeld
        refine ⟨_, rfl, ?_⟩
        refine hK.out _ _ (keepT_below hHeld1 hB) (fun hHeld2 => ?_)
        clear hK K
        refine norm_ (a' := ?_) ?_ ?_
        rotate_left
        · show Act.put _ (some 50) _ = _
          simp only [Act.put, List.setIfInBounds_toArray, List.set_cons_zero, List.set_cons_succ, i64_w, i32_w]
          rfl
        refine pure_ (i := 10) (N := some 51) (v := ?_) (a' := ?_) #[true, true, true, true, true, true, true, true, true, true, true, false, false, false, false, false, false, false, false, false, false, false, false, false, false, false, false, false, false, false, false, false, false] rfl rfl (by kernel_rfl) (fun _ _ _ h => h) (Or.inl ⟨by rfl, ?_⟩) ?_ ?_
        rotate_left
        · intro w'
          go_simp
          first | done | with_reducible rfl
        rotate_left
        · simp only [Act.put, List.setIfInBounds_toArray, List.set_cons_zero, List.set_cons_succ, i64_w, i32_w]
          rfl
        refine pure_ (i := 11) (N := some 52) (v := ?_) (a' := ?_) #[true, true, true, true, true, true, true, true, true, true, true, true, false, false, false, false, false, false, false, false, false, false, false, false, false, false, false, false, false, false, false, false, false] rfl rfl (by kernel_rfl) (fun _ _ _ h => h) (Or.inl ⟨by rfl, ?_⟩) ?_ ?_
        rotate_left
        · intro w'
          go_simp
          first | done | with_reducible rfl
        rotate_left
        · simp only [Act.put, List.setIfInBounds_toArray, List.set_cons_zero, List.set_cons_succ, i64_w, i32_w]
          rfl
        refine pure_ (i := 12) (N := some 53) (v := ?_) (a' := ?_) #[true, true, true, true, true, true, true, true, true, true, true, true, true, false, false, false, false, false, false, false, false, false, false, false, false, false, false, false, false, false, false, false, false] rfl rfl (by kernel_rfl) (fun _ _ _ h => h) (Or.inl ⟨by rfl, ?_⟩) ?_ ?_
        rotate_left
        · intro w'
          go_simp
          first | done | with_reducible rfl
        rotate_left
        · simp only [Act.put, List.setIfInBounds_toArray, List.set_cons_zero, List.set_cons_succ, i64_w, i32_w]
          rfl
        refine pure_ (i := 13) (N := some 54) (v := ?_) (a' := ?_) #[true, true, true, true, true, true, true, true, true, true, true, true, true, true, false, false, false, false, false, false, false, false, false, false, false, false, false, false, false, false, false, false, false] rfl rfl (by kernel_rfl) (fun _ _ _ h => h) (Or.inl ⟨by rfl, ?_⟩) ?_ ?_
        rotate_left
        · intro w'
          go_simp
          first | done | with_reducible rfl
        rotate_left
        · simp only [Act.put, List.setIfInBounds_toArray, List.set_cons_zero, List.set_cons_succ, i64_w, i32_w]
          rfl
        refine pure_ (i := 14) (N := some 55) (v := ?_) (a' := ?_) #[true, true, true, true, true, true, true, true, true, true, true, true, true, true, true, false, false, false, false, false, false, false, false, false, false, false, false, false, false, false, false, false, false] rfl rfl (by kernel_rfl) (fun _ _ _ h => h) (Or.inl ⟨by rfl, ?_⟩) ?_ ?_
        rotate_left
        · intro w'
          go_simp
          first | done | with_reducible rfl
        rotate_left
        · simp only [Act.put, List.setIfInBounds_toArray, List.set_cons_zero, List.set_cons_succ, i64_w, i32_w]
          rfl
        refine pure_ (i := 15) (N := some 56) (v := ?_) (a' := ?_) #[true, true, true, true, true, true, true, true, true, true, true, true, true, true, true, true, false, false, false, false, false, false, false, false, false, false, false, false, false, false, false, false, false] rfl rfl (by kernel_rfl) (fun _ _ _ h => h) (Or.inl ⟨by rfl, ?_⟩) ?_ ?_
        rotate_left
        · intro w'
          go_simp
          first | done | with_reducible rfl
        rotate_left
        · simp only [Act.put, List.setIfInBounds_toArray, List.set_cons_zero, List.set_cons_succ, i64_w, i32_w]
          rfl
        refine pure_ (i := 16) (N := some 57) (v := ?_) (a' := ?_) #[true, true, true, true, true, true, true, true, true, true, true, true, true, true, true, true, true, false, false, false, false, false, false, false, false, false, false, false, false, false, false, false, false] rfl rfl (by kernel_rfl) (fun _ _ _ h => h) (Or.inl ⟨by rfl, ?_⟩) ?_ ?_
        rotate_left
        · intro w'
          go_simp
          first | done | with_reducible rfl
        rotate_left
        · simp only [Act.put, List.setIfInBounds_toArray, List.set_cons_zero, List.set_cons_succ, i64_w, i32_w]
          rfl
        refine take_ (i := 17) (N := some 58) (v := ?_) (a' := ?_) #[true, true, true, true, true, true, true, true, true, true, true, true, true, true, true, true, true, true, false, false, false, false, false, false, false, false, false, false, false, false, false, false, false] rfl rfl (by kernel_rfl) (fun _ _ _ h => h) (Or.inl ⟨by rfl, ?_⟩) hHeld2 ?_ ?_
        rotate_left
        · rintro w' ⟨⟨hbe, s0, s1, s2⟩, s3⟩
          go_simp
          first | done | with_reducible rfl
        rotate_left
        · simp only [Act.put, List.setIfInBounds_toArray, List.set_cons_zero, List.set_cons_succ, i64_w, i32_w]
          rfl
        refine take_ (i := 20) (N := some 61) (v := ?_) (a' := ?_) #[true, true, true, true, true, true, true, true, true, true, true, true, true, true, true, true, true, true, false, false, true, false, false, false, false, false, false, false, false, false, false, false, false] rfl rfl (by kernel_rfl) (fun _ _ _ h => h) (Or.inl ⟨by rfl, ?_⟩) hHeld2 ?_ ?_
        rotate_left
        · rintro w' ⟨⟨hbe, s0, s1, s2⟩, s3⟩
          go_simp
          first | done | with_reducible rfl
        rotate_left
        · simp only [Act.put, List.setIfInBounds_toArray, List.set_cons_zero, List.set_cons_succ, i64_w, i32_w]
          rfl
        refine two_ (i := 18) (j := 21) (Ni := some 59) (Nj := some 62) #[true, true, true, true, true, true, true, true, true, true, true, true, true, true, true, true, true, true, true, false, true, false, false, false, false, false, false, false, false, false, false, false, false] #[true, true, true, true, true, true, true, true, true, true, true, true, true, true, true, true, true, true, false, false, true, true, false, false, false, false, false, false, false, false, false, false, false] rfl rfl rfl rfl (by kernel_rfl) (by decide) (by decide) (fun K hK => ?_) (fun K hK => ?_)
        · skip
          refine value_ (by rfl) rfl (by go_simp; first | rfl | exact ⟨rfl, rfl⟩) ?_
          have hZ := heap_alloc_new w9 (.cells #[.int .i64 p, .slice Ao no co, .slice An nn cn] 24)
          have hE := one_hk hZ HL.out.1 HL.out.2 (Kd.C_below HO7.out (keepT_b (keepT_below hHeld2 (below_alloc (Below.refl _ _) _)))) hco (Kd.C_below HN7.out (keepT_b (keepT_below hHeld2 (below_alloc (Below.refl _ _) _)))) hcn
          have HE1 := Lib.hid hE
          clear hE hZ
          refine hK.out _ _ (keepT_below hHeld2 (below_alloc (Below.refl _ _) _)) (fun hHeld3 => ?_)
          clear hK K
          refine norm_ (a' := ?_) ?_ ?_
          rotate_left
          · show Act.put _ (some 59) _ = _
            simp only [Act.put, List.setIfInBounds_toArray, List.set_cons_zero, List.set_cons_succ, i64_w, i32_w]
            rfl
          refine two_ (i := 19) (j := 21) (Ni := some 60) (Nj := some 62) #[true, true, true, true, true, true, true, true, true, true, true, true, true, true, true, true, true, true, true, true, true, false, false, false, false, false, false, false, false, false, false, false, false] #[true, true, true, true, true, true, true, true, true, true, true, true, true, true, true, true, true, true, true, false, true, true, false, false, false, false, false, false, false, false, false, false, false] rfl rfl rfl rfl (by kernel_rfl) (by decide) (by decide) (fun K hK => ?_) (fun K hK => ?_)
          · skip
            refine goes_ Try.func18 (by kernel_rfl) rfl #[.slice (some ⟨w9.heap.size, 0, none⟩) 1 1] (by rfl) rfl rfl (by (try simp only [List.map_toArray, List.map_cons, List.map_nil]); first | done | rfl) ?_
            refine (costS_n 1 1 _ [(⟨p, old, new⟩ : S24)] _ rfl HE1.out (by decide) (by decide) (by have := HKC.out; omega)).mono ?_
            rintro e w10 ⟨rfl, hB⟩
            have HB10 := Lib.hid hB
            refine ⟨_, rfl, ?_⟩
            refine hK.out _ _ (keepT_below hHeld3 hB) (fun hHeld4 => ?_)
            clear hK K
            refine norm_ (a' := ?_) ?_ ?_
            rotate_left
            · show Act.put _ (some 60) _ = _
              simp only [Act.put, List.setIfInBounds_toArray, List.set_cons_zero, List.set_cons_succ, i64_w, i32_w]
              rfl
            refine one_ (i := 21) (N := some 62) #[true, true, true, true, true, true, true, true, true, true, true, true, true, true, true, true, true, true, true, true, true, true, false, false, false, false, false, false, false, false, false, false, false] rfl rfl (by kernel_rfl) (by decide) (fun K hK => ?_)
            refine value_ (by rfl) rfl (by go_simp; first | rfl | exact ⟨rfl, rfl⟩) ?_
            have hZ := heap_alloc_new w10 (.cells #[.int .i64 p, .slice Ao no co, .slice An nn cn] 24)
            have hE := one_hk hZ HL.out.1 HL.out.2 (Kd.C_below HO7.out (keepT_b (keepT_below hHeld4 (below_alloc (Below.refl _ _) _)))) hco (Kd.C_below HN7.out (keepT_b (keepT_below hHeld4 (below_alloc (Below.refl _ _) _)))) hcn
            have HE2 := Lib.hid hE
            clear hE hZ
            refine hK.out _ _ (keepT_below hHeld4 (below_alloc (Below.refl _ _) _)) (fun hHeld5 => ?_)
            clear hK K
            refine norm_ (a' := ?_) ?_ ?_
            rotate_left
            · show Act.put _ (some 62) _ = _
              simp only [Act.put, List.setIfInBounds_toArray, List.set_cons_zero, List.set_cons_succ, i64_w, i32_w]
              rfl
            refine one_ (i := 22) (N := some 63) #[true, true, true, true, true, true, true, true, true, true, true, true, true, true, true, true, true, true, true, true, true, true, true, false, false, false, false, false, false, false, false, false, false] rfl rfl (by kernel_rfl) (by decide) (fun K hK => ?_)
            refine goes_ Try.func19 (by kernel_rfl) rfl #[.slice (some ⟨w10.heap.size, 0, none⟩) 1 1] (by rfl) rfl rfl (by (try simp only [List.map_toArray, List.map_cons, List.map_nil]); first | done | rfl) ?_
            refine (rcostS_n 1 1 _ [(⟨p, old, new⟩ : S24)] _ rfl HE2.out (by decide) (by decide) (by have := HKC.out; omega)).mono ?_
            rintro e w11 ⟨rfl, hB⟩
            refine ⟨_, rfl, ?_⟩
            refine hK.out _ _ (keepT_below hHeld5 hB) (fun hHeld6 => ?_)
            clear hK K
            refine norm_ (a' := ?_) ?_ ?_
            rotate_left
            · show Act.put _ (some 63) _ = _
              simp only [Act.put, List.setIfInBounds_toArray, List.set_cons_zero, List.set_cons_succ, i64_w, i32_w]
              rfl
            refine pure_ (i := 23) (N := some 64) (v := ?_) (a' := ?_) #[true, true, true, true, true, true, true, true, true, true, true, true, true, true, true, true, true, true, true, true, true, true, true, true, false, false, false, false, false, false, false, false, false] rfl rfl (by kernel_rfl) (fun _ _ _ h => h) (Or.inl ⟨by rfl, ?_⟩) ?_ ?_
            rotate_left
            · intro w'
              go_simp
              first | done | with_reducible rfl
            rotate_left
            · simp only [Act.put, List.setIfInBounds_toArray, List.set_cons_zero, List.set_cons_succ, i64_w, i32_w]
              rfl
            refine pure_ (i := 24) (N := some 65) (v := ?_) (a' := ?_) #[true, true, true, true, true, true, true, true, true, true, true, true, true, true, true, true, true, true, true, true, true, true, true, true, true, false, false, false, false, false, false, false, false] rfl rfl (by kernel_rfl) (fun _ _ _ h => h) (Or.inl ⟨by rfl, ?_⟩) ?_ ?_
            rotate_left
            · intro w'
              go_simp
              first | done | with_reducible rfl
            rotate_left
            · simp only [Act.put, List.setIfInBounds_toArray, List.set_cons_zero, List.set_cons_succ, i64_w, i32_w]
              rfl
            refine pure_ (i := 25) (N := some 66) (v := ?_) (a' := ?_) #[true, true, true, true, true, true, true, true, true, true, true, true, true, true, true, true, true, true, true, true, true, true, true, true, true, true, false, false, false, false, false, false, false] rfl rfl (by kernel_rfl) (fun _ _ _ h => h) (Or.inl ⟨by rfl, ?_⟩) ?_ ?_
            rotate_left
            · intro w'
              go_simp
              first | done | with_reducible rfl
            rotate_left
            · simp only [Act.put, List.setIfInBounds_toArray, List.set_cons_zero, List.set_cons_succ, i64_w, i32_w]
              rfl
            refine pure_ (i := 26) (N := some 67) (v := ?_) (a' := ?_) #[true, true, true, true, true, true, true, true, true, true, true, true, true, true, true, true, true, true, true, true, true, true, true, true, true, true, true, false, false, false, false, false, false] rfl rfl (by kernel_rfl) (fun _ _ _ h => h) (Or.inl ⟨by rfl, ?_⟩) ?_ ?_
            rotate_left
            · intro w'
              go_simp
              first | done | with_reducible rfl
            rotate_left
            · simp only [Act.put, List.setIfInBounds_toArray, List.set_cons_zero, List.set_cons_succ, i64_w, i32_w]
              rfl
            refine pure_ (i := 28) (N := some 69) (v := ?_) (a' := ?_) #[true, true, true, true, true, true, true, true, true, true, true, true, true, true, true, true, true, true, true, true, true, true, true, true, true, true, true, false, true, false, false, false, false] rfl rfl (by kernel_rfl) (fun _ _ _ h => h) (Or.inl ⟨by rfl, ?_⟩) ?_ ?_
            rotate_left
            · intro w'
              go_simp
              first | done | with_reducible rfl
            rotate_left
            · simp only [Act.put, List.setIfInBounds_toArray, List.set_cons_zero, List.set_cons_succ, i64_w, i32_w]
              rfl
            refine one_ (i := 27) (N := some 68) #[true, true, true, true, true, true, true, true, true, true, true, true, true, true, true, true, true, true, true, true, true, true, true, true, true, true, true, true, true, false, false, false, false] rfl rfl (by kernel_rfl) (by decide) (fun K hK => ?_)
            refine goes_ Try.func18 (by kernel_rfl) rfl #[.slice Ax nh cx] (by rfl) rfl rfl (by (try simp only [List.map_toArray, List.map_cons, List.map_nil]); first | done | rfl) ?_
            refine (cost_n nh cx Ax hs _ HNH.out (Kd.C_below HX7.out (keepT_b hHeld6)) hcx (by omega) (by have := HHS.out.2; omega)).mono ?_
            rintro e w12 ⟨rfl, hB⟩
            refine ⟨_, rfl, ?_⟩
            refine hK.out _ _ (keepT_below hHeld6 hB) (fun hHeld7 => ?_)
            clear hK K
            refine norm_ (a' := ?_) ?_ ?_
            rotate_left
            · show Act.put _ (some 68) _ = _
              simp only [Act.put, List.setIfInBounds_toArray, List.set_cons_zero, List.set_cons_succ, i64_w, i32_w]
              rfl
            refine one_ (i := 29) (N := some 70) #[true, true, true, true, true, true, true, true, true, true, true, true, true, true, true, true, true, true, true, true, true, true, true, true, true, true, true, true, true, true, false, false, false] rfl rfl (by kernel_rfl) (by decide) (fun K hK => ?_)
            refine goes_ Try.func19 (by kernel_rfl) rfl #[.slice Ay nh cy] (by rfl) rfl rfl (by (try simp only [List.map_toArray, List.map_cons, List.map_nil]); first | done | rfl) ?_
            refine (rcost_n nh cy Ay hs _ HNH.out (Kd.C_below HY7.out (keepT_b hHeld7)) hcy (by omega) (by have := HHS.out.2; omega)).mono ?_
            rintro e w13 ⟨rfl, hB⟩
            have HEND := Lib.hid (below_then HS7.out.bel HS7.out.bel.size (keepT_b (keepT_below hHeld7 hB)))
            refine ⟨_, rfl, ?_⟩
            refine hK.out _ _ (keepT_below hHeld7 hB) (fun hHeld8 => ?_)
            clear hK K
            refine norm_ (a' := ?_) ?_ ?_
            rotate_left
            · show Act.put _ (some 70) _ = _
              simp only [Act.put, List.setIfInBounds_toArray, List.set_cons_zero, List.set_cons_succ, i64_w, i32_w]
              rfl
            refine tail_list 30 (t := [30, 31, 32]) (fuel := 0) rfl rfl rfl (by kernel_rfl) (by decide) ?_
            go_wp2_with fail
            go_ret
            exact ⟨by simp, HEND.out⟩
          · skip
            refine value_ (by rfl) rfl (by go_simp; first | rfl | exact ⟨rfl, rfl⟩) ?_
            have hZ := heap_alloc_new (w9.alloc (.cells #[.int .i64 p, .slice Ao no co, .slice An nn cn] 24)) (.cells #[.int .i64 p, .slice Ao no co, .slice An nn cn] 24)
            rw [show (w9.alloc (.cells #[.int .i64 p, .slice Ao no co, .slice An nn cn] 24)).heap.size = w9.heap.size + 1 by simp] at hZ
            have hE := one_hk hZ HL.out.1 HL.out.2 (Kd.C_below HO7.out (keepT_b (keepT_below hHeld3 (below_alloc (Below.refl _ _) _)))) hco (Kd.C_below HN7.out (keepT_b (keepT_below hHeld3 (below_alloc (Below.refl _ _) _)))) hcn
            have HE2 := Lib.hid hE
            clear hE hZ
            refine hK.out _ _ (keepT_below hHeld3 (below_alloc (Below.refl _ _) _)) (fun hHeld4 => ?_)
            clear hK K
            refine norm_ (a' := ?_) ?_ ?_
            rotate_left
            · show Act.put _ (some 62) _ = _
              simp only [Act.put, List.setIfInBounds_toArray, List.set_cons_zero, List.set_cons_succ, i64_w, i32_w]
              rfl
            refine one_ (i := 19) (N := some 60) #[true, true, true, true, true, true, true, true, true, true, true, true, true, true, true, true, true, true, true, true, true, true, false, false, false, false, false, false, false, false, false, false, false] rfl rfl (by kernel_rfl) (by decide) (fun K hK => ?_)
            refine goes_ Try.func18 (by kernel_rfl) rfl #[.slice (some ⟨w9.heap.size, 0, none⟩) 1 1] (by rfl) rfl rfl (by (try simp only [List.map_toArray, List.map_cons, List.map_nil]); first | done | rfl) ?_
            refine (costS_n 1 1 _ [(⟨p, old, new⟩ : S24)] _ rfl (Kd.C_below HE1.out (below_alloc (Below.refl _ _) _)) (by decide) (by decide) (by have := HKC.out; omega)).mono ?_
            rintro e w10 ⟨rfl, hB⟩
            have HB10 := Lib.hid hB
            refine ⟨_, rfl, ?_⟩
            refine hK.out _ _ (keepT_below hHeld4 hB) (fun hHeld5 => ?_)
            clear hK K
            refine norm_ (a' := ?_) ?_ ?_
            rotate_left
            · show Act.put _ (some 60) _ = _
              simp only [Act.put, List.setIfInBounds_toArray, List.set_cons_zero, List.set_cons_succ, i64_w, i32_w]
              rfl
            refine one_ (i := 22) (N := some 63) #[true, true, true, true, true, true, true, true, true, true, true, true, true, true, true, true, true, true, true, true, true, true, true, false, false, false, false, false, false, false, false, false, false] rfl rfl (by kernel_rfl) (by decide) (fun K hK => ?_)
            refine goes_ Try.func19 (by kernel_rfl) rfl #[.slice (some ⟨w9.heap.size + 1, 0, none⟩) 1 1] (by rfl) rfl rfl (by (try simp only [List.map_toArray, List.map_cons, List.map_nil]); first | done | rfl) ?_
            refine (rcostS_n 1 1 _ [(⟨p, old, new⟩ : S24)] _ rfl (Kd.C_below HE2.out HB10.out) (by decide) (by decide) (by have := HKC.out; omega)).mono ?_
            rintro e w11 ⟨rfl, hB⟩
            refine ⟨_, rfl, ?_⟩
            refine hK.out _ _ (keepT_below hHeld5 hB) (fun hHeld6 => ?_)
            clear hK K
            refine norm_ (a' := ?_) ?_ ?_
            rotate_left
            · show Act.put _ (some 63) _ = _
              simp only [Act.put, List.setIfInBounds_toArray, List.set_cons_zero, List.set_cons_succ, i64_w, i32_w]
              rfl
            refine pure_ (i := 23) (N := some 64) (v := ?_) (a' := ?_) #[true, true, true, true, true, true, true, true, true, true, true, true, true, true, true, true, true, true, true, true, true, true, true, true, false, false, false, false, false, false, false, false, false] rfl rfl (by kernel_rfl) (fun _ _ _ h => h) (Or.inl ⟨by rfl, ?_⟩) ?_ ?_
            rotate_left
            · intro w'
              go_simp
              first | done | with_reducible rfl
            rotate_left
            · simp only [Act.put, List.setIfInBounds_toArray, List.set_cons_zero, List.set_cons_succ, i64_w, i32_w]
              rfl
            refine pure_ (i := 24) (N := some 65) (v := ?_) (a' := ?_) #[true, true, true, true, true, true, true, true, true, true, true, true, true, true, true, true, true, true, true, true, true, true, true, true, true, false, false, false, false, false, false, false, false] rfl rfl (by kernel_rfl) (fun _ _ _ h => h) (Or.inl ⟨by rfl, ?_⟩) ?_ ?_
            rotate_left
            · intro w'
              go_simp
              first | done | with_reducible rfl
            rotate_left
            · simp only [Act.put, List.setIfInBounds_toArray, List.set_cons_zero, List.set_cons_succ, i64_w, i32_w]
              rfl
            refine pure_ (i := 25) (N := some 66) (v := ?_) (a' := ?_) #[true, true, true, true, true, true, true, true, true, true, true, true, true, true, true, true, true, true, true, true, true, true, true, true, true, true, false, false, false, false, false, false, false] rfl rfl (by kernel_rfl) (fun _ _ _ h => h) (Or.inl ⟨by rfl, ?_⟩) ?_ ?_
            rotate_left
            · intro w'
              go_simp
              first | done | with_reducible rfl
            rotate_left
            · simp only [Act.put, List.setIfInBounds_toArray, List.set_cons_zero, List.set_cons_succ, i64_w, i32_w]
              rfl
            refine pure_ (i := 26) (N := some 67) (v := ?_) (a' := ?_) #[true, true, true, true, true, true, true, true, true, true, true, true, true, true, true, true, true, true, true, true, true, true, true, true, true, true, true, false, false, false, false, false, false] rfl rfl (by kernel_rfl) (fun _ _ _ h => h) (Or.inl ⟨by rfl, ?_⟩) ?_ ?_
            rotate_left
            · intro w'
              go_simp
              first | done | with_reducible rfl
            rotate_left
            · simp only [Act.put, List.setIfInBounds_toArray, List.set_cons_zero, List.set_cons_succ, i64_w, i32_w]
              rfl
            refine pure_ (i := 28) (N := some 69) (v := ?_) (a' := ?_) #[true, true, true, true, true, true, true, true, true, true, true, true, true, true, true, true, true, true, true, true, true, true, true, true, true, true, true, false, true, false, false, false, false] rfl rfl (by kernel_rfl) (fun _ _ _ h => h) (Or.inl ⟨by rfl, ?_⟩) ?_ ?_
            rotate_left
            · intro w'
              go_simp
              first | done | with_reducible rfl
            rotate_left
            · simp only [Act.put, List.setIfInBounds_toArray, List.set_cons_zero, List.set_cons_succ, i64_w, i32_w]
              rfl
            refine one_ (i := 27) (N := some 68) #[true, true, true, true, true, true, true, true, true, true, true, true, true, true, true, true, true, true, true, true, true, true, true, true, true, true, true, true, true, false, false, false, false] rfl rfl (by kernel_rfl) (by decide) (fun K hK => ?_)
            refine goes_ Try.func18 (by kernel_rfl) rfl #[.slice Ax nh cx] (by rfl) rfl rfl (by (try simp only [List.map_toArray, List.map_cons, List.map_nil]); first | done | rfl) ?_
            refine (cost_n nh cx Ax hs _ HNH.out (Kd.C_below HX7.out (keepT_b hHeld6)) hcx (by omega) (by have := HHS.out.2; omega)).mono ?_
            rintro e w12 ⟨rfl, hB⟩
            refine ⟨_, rfl, ?_⟩
            refine hK.out _ _ (keepT_below hHeld6 hB) (fun hHeld7 => ?_)
            clear hK K
            refine norm_ (a' := ?_) ?_ ?_
            rotate_left
            · show Act.put _ (some 68) _ = _
              simp only [Act.put, List.setIfInBounds_toArray, List.set_cons_zero, List.set_cons_succ, i64_w, i32_w]
              rfl
            refine one_ (i := 29) (N := some 70) #[true, true, true, true, true, true, true, true, true, true, true, true, true, true, true, true, true, true, true, true, true, true, true, true, true, true, true, true, true, true, false, false, false] rfl rfl (by kernel_rfl) (by decide) (fun K hK => ?_)
            refine goes_ Try.func19 (by kernel_rfl) rfl #[.slice Ay nh cy] (by rfl) rfl rfl (by (try simp only [List.map_toArray, List.map_cons, List.map_nil]); first | done | rfl) ?_
            refine (rcost_n nh cy Ay hs _ HNH.out (Kd.C_below HY7.out (keepT_b hHeld7)) hcy (by omega) (by have := HHS.out.2; omega)).mono ?_
            rintro e w13 ⟨rfl, hB⟩
            have HEND := Lib.hid (below_then HS7.out.bel HS7.out.bel.size (keepT_b (keepT_below hHeld7 hB)))
            refine ⟨_, rfl, ?_⟩
            refine hK.out _ _ (keepT_below hHeld7 hB) (fun hHeld8 => ?_)
            clear hK K
            refine norm_ (a' := ?_) ?_ ?_
            rotate_left
            · show Act.put _ (some 70) _ = _
              simp only [Act.put, List.setIfInBounds_toArray, List.set_cons_zero, List.set_cons_succ, i64_w, i32_w]
              rfl
            refine tail_list 30 (t := [30, 31, 32]) (fuel := 0) rfl rfl rfl (by kernel_rfl) (by decide) ?_
            go_wp2_with fail
            go_ret
            exact ⟨by simp, HEND.out⟩
        · skip
          refine value_ (by rfl) rfl (by go_simp; first | rfl | exact ⟨rfl, rfl⟩) ?_
          have hZ := heap_alloc_new w9 (.cells #[.int .i64 p, .slice Ao no co, .slice An nn cn] 24)
          have hE := one_hk hZ HL.out.1 HL.out.2 (Kd.C_below HO7.out (keepT_b (keepT_below hHeld2 (below_alloc (Below.refl _ _) _)))) hco (Kd.C_below HN7.out (keepT_b (keepT_below hHeld2 (below_alloc (Below.refl _ _) _)))) hcn
          have HE2 := Lib.hid hE
          clear hE hZ
          refine hK.out _ _ (keepT_below hHeld2 (below_alloc (Below.refl _ _) _)) (fun hHeld3 => ?_)
          clear hK K
          refine norm_ (a' := ?_) ?_ ?_
          rotate_left
          · show Act.put _ (some 62) _ = _
            simp only [Act.put, List.setIfInBounds_toArray, List.set_cons_zero, List.set_cons_succ, i64_w, i32_w]
            rfl
          refine one_ (i := 18) (N := some 59) #[true, true, true, true, true, true, true, true, true, true, true, true, true, true, true, true, true, true, true, false, true, true, false, false, false, false, false, false, false, false, false, false, false] rfl rfl (by kernel_rfl) (by decide) (fun K hK => ?_)
          refine value_ (by rfl) rfl (by go_simp; first | rfl | exact ⟨rfl, rfl⟩) ?_
          have hZ := heap_alloc_new (w9.alloc (.cells #[.int .i64 p, .slice Ao no co, .slice An nn cn] 24)) (.cells #[.int .i64 p, .slice Ao no co, .slice An nn cn] 24)
          rw [show (w9.alloc (.cells #[.int .i64 p, .slice Ao no co, .slice An nn cn] 24)).heap.size = w9.heap.size + 1 by simp] at hZ
          have hE := one_hk hZ HL.out.1 HL.out.2 (Kd.C_below HO7.out (keepT_b (keepT_below hHeld3 (below_alloc (Below.refl _ _) _)))) hco (Kd.C_below HN7.out (keepT_b (keepT_below hHeld3 (below_alloc (Below.refl _ _) _)))) hcn
          have HE1 := Lib.hid hE
          clear hE hZ
          refine hK.out _ _ (keepT_below hHeld3 (below_alloc (Below.refl _ _) _)) (fun hHeld4 => ?_)
          clear hK K
          refine norm_ (a' := ?_) ?_ ?_
          rotate_left
          · show Act.put _ (some 59) _ = _
            simp only [Act.put, List.setIfInBounds_toArray, List.set_cons_zero, List.set_cons_succ, i64_w, i32_w]
            rfl
          refine one_ (i := 19) (N := some 60) #[true, true, true, true, true, true, true, true, true, true, true, true, true, true, true, true, true, true, true, true, true, true, false, false, false, false, false, false, false, false, false, false, false] rfl rfl (by kernel_rfl) (by decide) (fun K hK => ?_)
          refine goes_ Try.func18 (by kernel_rfl) rfl #[.slice (some ⟨w9.heap.size + 1, 0, none⟩) 1 1] (by rfl) rfl rfl (by (try simp only [List.map_toArray, List.map_cons, List.map_nil]); first | done | rfl) ?_
          refine (costS_n 1 1 _ [(⟨p, old, new⟩ : S24)] _ rfl HE1.out (by decide) (by decide) (by have := HKC.out; omega)).mono ?_
          rintro e w10 ⟨rfl, hB⟩
          have HB10 := Lib.hid hB
          refine ⟨_, rfl, ?_⟩
          refine hK.out _ _ (keepT_below hHeld4 hB) (fun hHeld5 => ?_)
          clear hK K
          refine norm_ (a' := ?_) ?_ ?_
          rotate_left
          · show Act.put _ (some 60) _ = _
            simp only [Act.put, List.setIfInBounds_toArray, List.set_cons_zero, List.set_cons_succ, i64_w, i32_w]
            rfl
          refine one_ (i := 22) (N := some 63) #[true, true, true, true, true, true, true, true, true, true, true, true, true, true, true, true, true, true, true, true, true, true, true, false, false, false, false, false, false, false, false, false, false] rfl rfl (by kernel_rfl) (by decide) (fun K hK => ?_)
          refine goes_ Try.func19 (by kernel_rfl) rfl #[.slice (some ⟨w9.heap.size, 0, none⟩) 1 1] (by rfl) rfl rfl (by (try simp only [List.map_toArray, List.map_cons, List.map_nil]); first | done | rfl) ?_
          refine (rcostS_n 1 1 _ [(⟨p, old, new⟩ : S24)] _ rfl (Kd.C_below (Kd.C_below HE2.out (below_alloc (Below.refl _ _) _)) HB10.out) (by decide) (by decide) (by have := HKC.out; omega)).mono ?_
          rintro e w11 ⟨rfl, hB⟩
          refine ⟨_, rfl, ?_⟩
          refine hK.out _ _ (keepT_below hHeld5 hB) (fun hHeld6 => ?_)
          clear hK K
          refine norm_ (a' := ?_) ?_ ?_
          rotate_left
          · show Act.put _ (some 63) _ = _
            simp only [Act.put, List.setIfInBounds_toArray, List.set_cons_zero, List.set_cons_succ, i64_w, i32_w]
            rfl
          refine pure_ (i := 23) (N := some 64) (v := ?_) (a' := ?_) #[true, true, true, true, true, true, true, true, true, true, true, true, true, true, true, true, true, true, true, true, true, true, true, true, false, false, false, false, false, false, false, false, false] rfl rfl (by kernel_rfl) (fun _ _ _ h => h) (Or.inl ⟨by rfl, ?_⟩) ?_ ?_
          rotate_left
          · intro w'
            go_simp
            first | done | with_reducible rfl
          rotate_left
          · simp only [Act.put, List.setIfInBounds_toArray, List.set_cons_zero, List.set_cons_succ, i64_w, i32_w]
            rfl
          refine pure_ (i := 24) (N := some 65) (v := ?_) (a' := ?_) #[true, true, true, true, true, true, true, true, true, true, true, true, true, true, true, true, true, true, true, true, true, true, true, true, true, false, false, false, false, false, false, false, false] rfl rfl (by kernel_rfl) (fun _ _ _ h => h) (Or.inl ⟨by rfl, ?_⟩) ?_ ?_
          rotate_left
          · intro w'
            go_simp
            first | done | with_reducible rfl
          rotate_left
          · simp only [Act.put, List.setIfInBounds_toArray, List.set_cons_zero, List.set_cons_succ, i64_w, i32_w]
            rfl
          refine pure_ (i := 25) (N := some 66) (v := ?_) (a' := ?_) #[true, true, true, true, true, true, true, true, true, true, true, true, true, true, true, true, true, true, true, true, true, true, true, true, true, true, false, false, false, false, false, false, false] rfl rfl (by kernel_rfl) (fun _ _ _ h => h) (Or.inl ⟨by rfl, ?_⟩) ?_ ?_
          rotate_left
          · intro w'
            go_simp
            first | done | with_reducible rfl
          rotate_left
          · simp only [Act.put, List.setIfInBounds_toArray, List.set_cons_zero, List.set_cons_succ, i64_w, i32_w]
            rfl
          refine pure_ (i := 26) (N := some 67) (v := ?_) (a' := ?_) #[true, true, true, true, true, true, true, true, true, true, true, true, true, true, true, true, true, true, true, true, true, true, true, true, true, true, true, false, false, false, false, false, false] rfl rfl (by kernel_rfl) (fun _ _ _ h => h) (Or.inl ⟨by rfl, ?_⟩) ?_ ?_
          rotate_left
          · intro w'
            go_simp
            first | done | with_reducible rfl
          rotate_left
          · simp only [Act.put, List.setIfInBounds_toArray, List.set_cons_zero, List.set_cons_succ, i64_w, i32_w]
            rfl
          refine pure_ (i := 28) (N := some 69) (v := ?_) (a' := ?_) #[true, true, true, true, true, true, true, true, true, true, true, true, true, true, true, true, true, true, true, true, true, true, true, true, true, true, true, false, true, false, false, false, false] rfl rfl (by kernel_rfl) (fun _ _ _ h => h) (Or.inl ⟨by rfl, ?_⟩) ?_ ?_
          rotate_left
          · intro w'
            go_simp
            first | done | with_reducible rfl
          rotate_left
          · simp only [Act.put, List.setIfInBounds_toArray, List.set_cons_zero, List.set_cons_succ, i64_w, i32_w]
            rfl
          refine one_ (i := 27) (N := some 68) #[true, true, true, true, true, true, true, true, true, true, true, true, true, true, true, true, true, true, true, true, true, true, true, true, true, true, true, true, true, false, false, false, false] rfl rfl (by kernel_rfl) (by decide) (fun K hK => ?_)
          refine goes_ Try.func18 (by kernel_rfl) rfl #[.slice Ax nh cx] (by rfl) rfl rfl (by (try simp only [List.map_toArray, List.map_cons, List.map_nil]); first | done | rfl) ?_
          refine (cost_n nh cx Ax hs _ HNH.out (Kd.C_below HX7.out (keepT_b hHeld6)) hcx (by omega) (by have := HHS.out.2; omega)).mono ?_
          rintro e w12 ⟨rfl, hB⟩
          refine ⟨_, rfl, ?_⟩
          refine hK.out _ _ (keepT_below hHeld6 hB) (fun hHeld7 => ?_)
          clear hK K
          refine norm_ (a' := ?_) ?_ ?_
          rotate_left
          · show Act.put _ (some 68) _ = _
            simp only [Act.put, List.setIfInBounds_toArray, List.set_cons_zero, List.set_cons_succ, i64_w, i32_w]
            rfl
          refine one_ (i := 29) (N := some 70) #[true, true, true, true, true, true, true, true, true, true, true, true, true, true, true, true, true, true, true, true, true, true, true, true, true, true, true, true, true, true, false, false, false] rfl rfl (by kernel_rfl) (by decide) (fun K hK => ?_)
          refine goes_ Try.func19 (by kernel_rfl) rfl #[.slice Ay nh cy] (by rfl) rfl rfl (by (try simp only [List.map_toArray, List.map_cons, List.map_nil]); first | done | rfl) ?_
          refine (rcost_n nh cy Ay hs _ HNH.out (Kd.C_below HY7.out (keepT_b hHeld7)) hcy (by omega) (by have := HHS.out.2; omega)).mono ?_
          rintro e w13 ⟨rfl, hB⟩
          have HEND := Lib.hid (below_then HS7.out.bel HS7.out.bel.size (keepT_b (keepT_below hHeld7 hB)))
          refine ⟨_, rfl, ?_⟩
          refine hK.out _ _ (keepT_below hHeld7 hB) (fun hHeld8 => ?_)
          clear hK K
          refine norm_ (a' := ?_) ?_ ?_
          rotate_left
          · show Act.put _ (some 70) _ = _
            simp only [Act.put, List.setIfInBounds_toArray, List.set_cons_zero, List.set_cons_succ, i64_w, i32_w]
            rfl
          refine tail_list 30 (t := [30, 31, 32]) (fuel := 0) rfl rfl rfl (by kernel_rfl) (by decide) ?_
          go_wp2_with fail
          go_ret
          exact ⟨by simp, HEND.out⟩
end Go.Proofs.Ytjclpepdjnffaaa
