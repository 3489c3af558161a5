/- DiffLeast's contract. -/
import Derived.Test.YtjclpepdjnffaaaDiffI
import Derived.Test.YtjclpepdjnffaaaDiffW6
set_option linter.unusedVariables false
set_option linter.unusedSimpArgs false
namespace Go.Proofs.Ytjclpepdjnffaaa
open Go.RowKit Go.Proofs.YtjclpepdjnffaaaW.PrintWords Go.Proofs.YtjclpepdjnffaaaW.PrintLast Go.Proofs.Ytjclpepdjnffaaa.PDiffTells

def goodHs (xs : List S24) : Prop := xs.length * 56 ≤ 140737488351232 ∧ ∀ x ∈ xs, goodH x
theorem opens_hunks : Opens Try.prog 28 (Kd.slice 24 k24) goodHs :=
  Opens.slice Try.underlying28 (by kernel_rfl) (B := 56) (by kernel_rfl) opens_hunk
theorem hunks_open {w : World} {x : List S24} {A : Option Addr} {n c : Nat} (h : (Kd.slice 24 k24).K w x [.slice A n c]) : n = x.length ∧ x.length ≤ c ∧ Kd.C k24 w A x.length x := by
  obtain ⟨A', c', e, l, g⟩ := h
  injection e with e _
  injection e with a b c
  subst a
  subst b
  subst c
  exact ⟨rfl, l, g⟩
theorem at_hk {w : World} {A : Option Addr} {n : Nat} {xs : List S24} (h : Kd.C k24 w A n xs) (hl : xs.length = n) (i : Nat) (h1 : i < n) : ∃ (x : S24) (ad : Addr) (A1 : Option Addr) (c1 : Nat) (A2 : Option Addr) (c2 : Nat), x ∈ xs ∧ xs.take (i + 1) = xs.take i ++ [x] ∧ A = some ad ∧ w.cell? (ad.add (i * 3)) = some (.int .i64 x.f0) ∧ w.cell? ⟨(ad.add (i * 3)).block, (ad.add (i * 3)).off + 1, none⟩ = some (.slice A1 x.f1.length c1) ∧ w.cell? ⟨(ad.add (i * 3)).block, (ad.add (i * 3)).off + 2, none⟩ = some (.slice A2 x.f2.length c2) ∧ x.f1.length ≤ c1 ∧ Kd.string.C w A1 x.f1.length x.f1 ∧ x.f2.length ≤ c2 ∧ Kd.string.C w A2 x.f2.length x.f2 := by
  subst hl
  obtain ⟨ad, A1, c1, A2, c2, e, h0, h2, h3, h4, h5, h6, h7⟩ := at_T24 h (i : Int) (by omega) (by omega)
  rw [rdT_nat _ _ h1] at h0 h2 h3 h4 h5 h6 h7
  rw [Int.toNat_natCast] at h0 h2 h3
  exact ⟨xs[i], ad, A1, c1, A2, c2, List.getElem_mem h1, by rw [List.take_add_one, List.getElem?_eq_getElem h1]; rfl, e, h0, h2, h3, h4, h5, h6, h7⟩
theorem costsS_snoc (l : List S24) (x : S24) : costsS (l ++ [x]) = costsS l + (x.f1.length + x.f2.length) := by simp [costsS]

set_option maxRecDepth 100000 in
set_option maxHeartbeats 16000000 in
theorem least_law (w : World) (xa : List ByteArray) (Aa : Option Addr) (na ca : Nat) (ha : (Kd.slice 9 Kd.string).K w xa [.slice Aa na ca]) (ga0 : goodL xa) (xb : List ByteArray) (Ab : Option Addr) (nb cb : Nat) (hb : (Kd.slice 9 Kd.string).K w xb [.slice Ab nb cb]) (gb0 : goodL xb) (xo : List S24) (Ao : Option Addr) (no co : Nat) (ho : (Kd.slice 24 k24).K w xo [.slice Ao no co]) (go0 : goodHs xo) :
    Calls Try.prog 5 #[.slice Aa na ca, .slice Ab nb cb, .slice Ao no co] w fun e w' => e = .returned (.bool true) ∧ Below w.heap.size w w' := by
  obtain ⟨rfl, hca, hCa⟩ := lines_open ha
  have ga := goodL_lt ga0
  have HCa := Lib.hid hCa
  obtain ⟨na, hna⟩ : ∃ n, n = xa.length := ⟨_, rfl⟩
  rw [← hna] at hca ga HCa ⊢
  have HLa := Lib.hid hna.symm
  clear ha ga0 hCa hna
  obtain ⟨rfl, hcb, hCb⟩ := lines_open hb
  have gb := goodL_lt gb0
  have HCb := Lib.hid hCb
  obtain ⟨nb, hnb⟩ : ∃ n, n = xb.length := ⟨_, rfl⟩
  rw [← hnb] at hcb gb HCb ⊢
  have HLb := Lib.hid hnb.symm
  clear hb gb0 hCb hnb
  obtain ⟨rfl, hco, hCo⟩ := hunks_open ho
  have HCo := Lib.hid hCo
  have HGo := Lib.hid go0.2
  obtain ⟨no, hno⟩ : ∃ n, n = xo.length := ⟨_, rfl⟩
  rw [← hno] at hco HCo ⊢
  have hob : no < 100000000000000 := by have := go0.1; omega
  have HLo := Lib.hid hno.symm
  clear ho hCo hno go0
  go_enter Try.func5, Try.ntmps5
  go_wp2_with fail
  refine (head_any w).mono ?_
  rintro e w1 ⟨rfl, hB⟩
  have HB1 := Lib.hid hB
  clear hB
  go_wp2_with fail
  obtain ⟨r, hr, hcall⟩ := great_n na nb ca cb xa xb Aa Ab w1 HLa.out HLb.out (Kd.C_below HCa.out HB1.out) hca (Kd.C_below HCb.out HB1.out) hcb ga gb
  refine hcall.mono ?_
  clear hcall
  rintro e w2 ⟨rfl, hB⟩
  have HB2 := Lib.hid (below_then HB1.out HB1.out.size hB)
  clear hB HB1
  cases r with
  | true =>
    clear hr
    go_wp2_with fail
    go_ret
    exact ⟨rfl, HB2.out⟩
  | false =>
    obtain ⟨ba, bb⟩ := hr rfl
    clear hr
    by_cases h20 : 20 < no
    · have h20' : (20 : Int) < (no : Int) := by omega
      go_wp2_with fail
      go_ret
      exact ⟨rfl, HB2.out⟩
    have h20' : ¬ (20 : Int) < (no : Int) := by omega
    have hlen := hunks_length xa xb
    have hcs := hunks_costs xa xb
    have hlen2 := hunks_length xb xa
    have hcs2 := hunks_costs xb xa
    have hap := apartBy_eq xa xb
    have hl1 := lcs_left xa xb
    have hl2 := lcs_right xa xb
    rw [HLa.out] at hl1
    rw [HLb.out] at hl2
    rw [HLa.out, HLb.out] at hlen hcs hlen2 hcs2 hap
    have HHS := Lib.hid (And.intro hlen (And.intro hcs (And.intro hlen2 hcs2)))
    clear hlen hcs hlen2 hcs2
    go_wp2_with fail
    refine (diff_n na nb w2 _ _ _ _ xa xb HLa.out HLb.out (Kd.C_below HCa.out HB2.out) (Kd.C_below HCb.out HB2.out) (by omega)).mono ?_
    rintro e w3 ⟨v, vo, vn, rfl, hH, hB⟩
    have HB3 := Lib.hid (below_then HB2.out HB2.out.size hB)
    obtain ⟨Ax, cx, rfl, hcx, hCx⟩ := hH.C (by have := HHS.out.1; omega)
    have HNH := Lib.hid hcx
    have HX3 := Lib.hid hCx
    have hnh : (hunks xa xb).length < 1000000 := by have := HHS.out.1; omega
    obtain ⟨nh, hnhe⟩ : ∃ n, n = (hunks xa xb).length := ⟨_, rfl⟩
    rw [← hnhe] at hcx hnh HX3 ⊢
    have HNHE := Lib.hid hnhe.symm
    clear hB HB2 hH hCx HNH hnhe
    go_wp2_with fail
    refine (cost_n nh cx Ax _ w3 HNHE.out HX3.out hcx hnh (by have := HHS.out.2.1; omega)).mono ?_
    rw [hunks_cost]
    rintro e w4 ⟨rfl, hB⟩
    have HB4 := Lib.hid (below_then HB3.out HB3.out.size hB)
    clear hB HB3 HX3 HNHE hcx hnh
    obtain ⟨K, hK⟩ : ∃ K, K = apartBy xa xb := ⟨_, rfl⟩
    obtain ⟨L, hL⟩ : ∃ L, L = lcs xa xb := ⟨_, rfl⟩
    rw [← hK, ← hL] at hap
    rw [← hK]
    rw [← hL] at hl1 hl2
    have HK := Lib.hid (And.intro hK.symm (And.intro hL.symm hap))
    have hLb : L ≤ 200 := by omega
    clear hK hL hap
    go_wp2_with fail
    refine (kept_n na nb w4 _ _ _ _ xa xb HLa.out HLb.out (Kd.C_below HCa.out HB4.out) (Kd.C_below HCb.out HB4.out) (by omega)).mono ?_
    rintro e w5 ⟨v, blk, rfl, hT, hB⟩
    have HB5 := Lib.hid (below_then HB4.out HB4.out.size hB)
    obtain ⟨g, cap, rfl, hgc, _, hgl, _⟩ := own_form hT.rows (by omega)
    obtain ⟨t0, t1, t2, _⟩ := hT.get g cap rfl (i := 0) (k := 0) (by omega) (by omega)
    have t1' : w5.cell? ⟨blk 0, 0, none⟩ = some (.int .i64 (L : Int)) := by
      rw [t1]
      show some (Value.int .i64 ((lcs (xa.drop 0) (xb.drop 0) : Nat) : Int)) = _
      rw [List.drop_zero, List.drop_zero, HK.out.2.1]
    clear hB HB4 hT t1
    have hfin : ((K : Int) != (na : Int) + (nb : Int) - 2 * (L : Int)) = false := by
      have h := HK.out.2.2
      have h' : (K : Int) = (na : Int) + (nb : Int) - 2 * (L : Int) := by omega
      rw [bne_eq_false_iff_eq]
      exact h'
    go_wp2_with fail
    refine (diff_n nb na w5 _ _ _ _ xb xa HLb.out HLa.out (Kd.C_below HCb.out HB5.out) (Kd.C_below HCa.out HB5.out) (by omega)).mono ?_
    rintro e w6 ⟨v, vo', vn', rfl, hH, hB⟩
    have HB6 := Lib.hid (below_then HB5.out HB5.out.size hB)
    obtain ⟨Ay, cy, rfl, hcy, hCy⟩ := hH.C (by have := HHS.out.2.2.1; omega)
    have HY6 := Lib.hid hCy
    have hmh : (hunks xb xa).length < 1000000 := by have := HHS.out.2.2.1; omega
    obtain ⟨mh, hmhe⟩ : ∃ n, n = (hunks xb xa).length := ⟨_, rfl⟩
    rw [← hmhe] at hcy hmh HY6 ⊢
    have HMHE := Lib.hid hmhe.symm
    clear hB HB5 hH hCy hmhe t0 t1' t2 hfin
    go_wp2_with fail
    refine (cost_n mh cy Ay _ w6 HMHE.out HY6.out hcy hmh (by have := HHS.out.2.2.2; omega)).mono ?_
    rw [hunks_cost, apartBy_comm, HK.out.1]
    rintro e w7 ⟨rfl, hB⟩
    have HB7 := Lib.hid (below_then HB6.out HB6.out.size hB)
    clear hB HB6 HY6 HMHE hcy hmh
    have HCo7 := Lib.hid (Kd.C_below HCo.out HB7.out)
    have HTK0 := Lib.hid (show apartBy xa xa = 0 by have := apartBy_eq xa xa; rw [lcs_self] at this; omega)
    go_wp2_with fail
    go_loopw [10, 11] (fun vx vi wr => ∃ (i nx cx : Nat) (X : List ByteArray) (Ax : Option Addr), i ≤ no ∧ vi = .int .i64 (i : Int) ∧ vx = .slice Ax nx cx ∧ X.length = nx ∧ nx ≤ cx ∧ Kd.string.C wr Ax nx X ∧ apartBy xa X ≤ costsS (xo.take i) ∧ costsS (xo.take i) ≤ 400 * i ∧ nx ≤ 200 + 200 * i ∧ Below w7.heap.size w7 wr) (fun _ vi _ => no - (intOf vi).toNat)
    case atStart => exact ⟨0, na, ca, xa, Aa, by omega, rfl, rfl, HLa.out, hca, Kd.C_below HCa.out HB7.out, by rw [HTK0.out]; omega, by simp [costsS], by omega, Below.refl _ _⟩
    case round =>
      clear HTK0
      obtain ⟨i, nx, cx, X, Ax, hi, rfl, rfl, hX, hcx, hCX, hapx, hcb1, hnx, hB8⟩ := hrel
      have HCX := Lib.hid hCX
      have HX := Lib.hid hX
      have HB8 := Lib.hid hB8
      have HM := Lib.hid (And.intro hapx hcb1)
      clear hCX hX hB8 hapx hcb1
      by_cases hin : i < no
      · obtain ⟨x, ad, A1, c1, A2, c2, hmem, htk, rfl, q0, q1, q2, hc1, hC1, hc2, hC2⟩ := at_hk (Kd.C_below HCo7.out HB8.out) HLo.out i hin
        obtain ⟨p, old, new⟩ := x
        simp only at q0 q1 q2 hc1 hC1 hc2 hC2
        have hgx := HGo.out _ hmem
        have g1 := goodL_lt hgx.2.1
        have g2 := goodL_lt hgx.2.2
        have HTK := Lib.hid htk
        have HC1 := Lib.hid hC1
        have HC2 := Lib.hid hC2
        simp only at g1 g2
        obtain ⟨n1, hn1⟩ : ∃ n, n = old.length := ⟨_, rfl⟩
        obtain ⟨n2, hn2⟩ : ∃ n, n = new.length := ⟨_, rfl⟩
        rw [← hn1] at q1 hc1 HC1 g1
        rw [← hn2] at q2 hc2 HC2 g2
        have HL12 := Lib.hid (And.intro hn1.symm hn2.symm)
        clear hmem hgx htk hC1 hC2 hn1 hn2
        go_wp2_with fail
        obtain ⟨r, hr, hcall⟩ := greatHunk_n p n1 n2 c1 c2 old new A1 A2 wr HL12.out.1 HL12.out.2 HC1.out hc1 HC2.out hc2 g1 g2
        refine hcall.mono ?_
        clear hcall
        rintro e w9 ⟨rfl, hB⟩
        have HB9 := Lib.hid (below_then HB8.out HB8.out.size hB)
        have HC19 := Lib.hid (Kd.C_below HC1.out hB)
        have HC29 := Lib.hid (Kd.C_below HC2.out hB)
        have HCX9 := Lib.hid (Kd.C_below HCX.out hB)
        have z0 := (hB.cell (World.block_lt_of_cell? wr _ q0)).trans q0
        have z1 := (hB.cell (World.block_lt_of_cell? wr _ q1)).trans q1
        have z2 := (hB.cell (World.block_lt_of_cell? wr _ q2)).trans q2
        clear hB q0 q1 q2 HC1 HC2
        cases r with
        | true =>
          clear hr
          go_wp2_with fail
          go_ret
          exact ⟨rfl, below_then HB7.out HB7.out.size HB9.out⟩
        | false =>
          obtain ⟨b1, b2⟩ := hr rfl
          clear hr
          go_wp2_with fail
          refine (apply_n nx n1 n2 cx c1 c2 w9 Ax A1 A2 X old new p HX.out HL12.out.1 HL12.out.2 HCX9.out hcx HC19.out hc1 HC29.out hc2 (by omega) (by omega) (by omega)).mono ?_
          rintro e w10 ⟨v, rfl, hR, hB⟩
          have HB10 := Lib.hid (below_then HB9.out HB9.out.size hB)
          clear hB z0 z1 z2
          cases hap : appliedI X p old new with
          | none =>
            rw [hap] at hR
            obtain ⟨Av, cv, rfl, _, _, _⟩ := R_addr hR
            clear hap hR
            go_wp2_with fail
            go_ret
            exact ⟨rfl, below_then HB7.out HB7.out.size HB10.out⟩
          | some y =>
            rw [hap] at hR
            obtain ⟨Av, cv, rfl, hcv, hCv, _⟩ := R_addr hR
            have hinv : ∃ q r : List ByteArray, X = q ++ old ++ r ∧ y = q ++ new ++ r := by
              unfold appliedI at hap
              split at hap
              · obtain ⟨q, r, e1, e2, _⟩ := applied_inv hap
                exact ⟨q, r, e1, e2⟩
              · cases hap
            obtain ⟨q, r, e1, e2⟩ := hinv
            have hyl : y.length ≤ nx + n2 := by
              have h1 := congrArg List.length e1
              have h2 := congrArg List.length e2
              simp only [List.length_append, HX.out, HL12.out.1, HL12.out.2] at h1 h2
              omega
            have hst : apartBy xa y ≤ costsS (xo.take (i + 1)) := by
              have h1 := apartBy_trans xa X y
              have h2 := apartBy_hunk q old new r
              rw [← e1, ← e2] at h2
              rw [HTK.out, costsS_snoc]
              have h3 := HM.out.1
              simp only
              omega
            have hcb2 : costsS (xo.take (i + 1)) ≤ 400 * (i + 1) := by
              rw [HTK.out, costsS_snoc]
              have h3 := HM.out.2
              have h4 := HL12.out.1
              have h5 := HL12.out.2
              simp only
              omega
            obtain ⟨ny, hny⟩ : ∃ ny, ny = y.length := ⟨_, rfl⟩
            have hcv' : y.length ≤ cv := hcv
            have hCv' : Kd.string.C w10 Av y.length y := hCv
            have hsel : ((some y : Option (List ByteArray)).getD []).length = y.length := rfl
            rw [hsel]
            rw [← hny] at hcv' hCv' hyl ⊢
            have HST := Lib.hid (And.intro hst (And.intro hcb2 hny.symm))
            have HCV := Lib.hid hCv'
            clear hR hcv hCv hCv' e1 e2 hst hcb2 hny hsel hap
            go_wp2_with fail
            exact ⟨⟨i + 1, ny, cv, y, Av, by omega, by go_num, rfl, HST.out.2.2, hcv', HCV.out, HST.out.1, HST.out.2.1, by omega, HB10.out⟩, by simp [intOf]; omega⟩
      · obtain rfl : i = no := by omega
        have hfull : xo.take i = xo := List.take_of_length_le (by rw [HLo.out]; exact Nat.le_refl _)
        have hM := HM.out
        rw [hfull] at hM
        have HM' := Lib.hid hM
        clear hM hfull HM
        go_wp2_with fail
        refine (lsame_n nx nb cx cb X xb Ax Ab wr HX.out HLb.out HCX.out hcx (Kd.C_below (Kd.C_below HCb.out HB7.out) HB8.out) hcb (by omega)).mono ?_
        rintro e w9 ⟨rfl, hB⟩
        have HB9 := Lib.hid (below_then HB8.out HB8.out.size hB)
        clear hB
        by_cases hxe : X = xb
        · rw [decide_eq_true hxe]
          have hge : K ≤ costsS xo := by have h1 := HM'.out.1; rw [hxe, HK.out.1] at h1; exact h1
          clear hxe
          go_wp2_with fail
          refine (costS_n i co Ao xo w9 HLo.out (Kd.C_below HCo7.out HB9.out) hco (by omega) (by have := HM'.out.2; omega)).mono ?_
          rintro e w11 ⟨rfl, hB⟩
          have HB11 := Lib.hid (below_then HB9.out HB9.out.size hB)
          clear hB
          have hge' : (K : Int) ≤ (costsS xo : Int) := by omega
          go_wp2_with fail
          go_ret
          exact ⟨by simp, below_then HB7.out HB7.out.size HB11.out⟩
        · rw [decide_eq_false hxe]
          clear hxe
          go_wp2_with fail
          go_ret
          exact ⟨rfl, below_then HB7.out HB7.out.size HB9.out⟩
end Go.Proofs.Ytjclpepdjnffaaa
