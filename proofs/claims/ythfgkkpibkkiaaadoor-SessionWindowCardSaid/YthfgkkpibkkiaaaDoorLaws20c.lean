/- SessionWindow's contract. -/
import Derived.Test.YthfgkkpibkkiaaaDoorSessJ
set_option linter.unusedVariables false
set_option linter.unusedSimpArgs false
namespace Go.Proofs.YthfgkkpibkkiaaaDoor
open Go.RowKit Go.Proofs.YthfgkkpibkkiaaaDoorW.PrintWords Go.Proofs.YthfgkkpibkkiaaaDoorW.PrintLast Go.Proofs.YthfgkkpibkkiaaaDoor.PSessionPlays

theorem at_24 {w : World} {A : Option Addr} {n : Nat} {xs : List S24} (h : Kd.C k24 w A n xs) (k : Nat) (hk : k < n) (x : S24) (hx : xs[k]? = some x) : ∃ ad A4 c4, A = some ad ∧ w.cell? (ad.add (k * 5)) = some (.int .i64 x.f0) ∧ w.cell? ⟨(ad.add (k * 5)).block, (ad.add (k * 5)).off + 1, none⟩ = some (.int .i64 x.f1) ∧ w.cell? ⟨(ad.add (k * 5)).block, (ad.add (k * 5)).off + 2, none⟩ = some (.bool x.f2) ∧ w.cell? ⟨(ad.add (k * 5)).block, (ad.add (k * 5)).off + 3, none⟩ = some (.int .i64 x.f3) ∧ w.cell? ⟨(ad.add (k * 5)).block, (ad.add (k * 5)).off + 4, none⟩ = some (.slice A4 x.f4.length c4) ∧ x.f4.length ≤ c4 ∧ (Kd.int .u8).C w A4 x.f4.length x.f4 := by
  have hr : rd_T24 xs (k : Int) = x := by
    unfold rd_T24
    rw [Int.toNat_natCast, List.getD_eq_getElem?_getD, hx]
    rfl
  obtain ⟨ad, A4, c4, e, h0, h1, h2, h3, h4, h5, h6⟩ := at_T24 h (k : Int) (by omega) (by omega)
  rw [hr] at h0 h1 h2 h3 h4 h5 h6
  rw [Int.toNat_natCast] at h0 h1 h2 h3 h4
  exact ⟨ad, A4, c4, e, h0, h1, h2, h3, h4, h5, h6⟩
/-- How many texts a tick sends. -/
def winN (n th : Nat) : Nat := min (n - th) 4
theorem tick_len (e : E) : (tickE e).length = max (winN e.sent.length e.there) 1 := by
  unfold tickE winN windowOf
  split
  · rw [List.length_mapIdx, List.length_take, List.length_drop]
    omega
  · simp only [List.length_singleton]
    omega
theorem tick_at (e : E) (k : Nat) (hk : k < winN e.sent.length e.there) (t : List Int) (ht : e.sent[e.there + k]? = some t) : (tickE e)[k]? = some (frameOf e k t) := by
  unfold winN at hk
  unfold tickE windowOf
  rw [if_pos (by omega), List.getElem?_mapIdx, List.getElem?_take, if_pos (by omega), List.getElem?_drop, ht]
  rfl
theorem tick_none (e : E) (h : winN e.sent.length e.there = 0) : tickE e = [⟨e.ep, (e.came.length : Int), false, 0, []⟩] := by
  unfold winN at h
  unfold tickE
  rw [if_neg (by omega)]
set_option maxRecDepth 100000 in
set_option maxHeartbeats 4000000 in
theorem window_law (w : World) (xs : List (List Int)) (A : Option Addr) (n c : Nat) (h : kTs.K w xs [.slice A n c]) (g : goodT xs) (os : List Int) (A2 : Option Addr) (n2 c2 : Nat) (h2 : kT.K w os [.slice A2 n2 c2]) (g2 : goodB os) (hG : Ground w) :
    Calls Tryd.prog 8 #[.slice A n c, .slice A2 n2 c2] w fun e w' => e = .returned (.bool true) ∧ Below w.heap.size w w' := by
  obtain ⟨hn, hc, hX⟩ := texts_open h
  obtain ⟨hn2, hc2, hO⟩ := bytes_open h2
  have HX := Lib.hid hX
  have HO := Lib.hid hO
  have HN := Lib.hid (And.intro hn (And.intro hn2 (And.intro hc hc2)))
  have HH := Lib.hid (head_any w hG)
  have HG2 := Lib.hid g2
  clear h h2 g hG hX hO hn hn2 hc hc2 g2
  go_enter Tryd.func8, Tryd.ntmps8
  go_wp2_with fail
  refine HH.out.mono ?_
  rintro r w1 ⟨rfl, hB1⟩
  have HB1 := Lib.hid hB1
  clear hB1 HH
  go_wp2_with fail
  refine (new_ok 7 w1 rfl).mono ?_
  rintro r w2 ⟨e0, rfl, hE, hB2⟩
  have HO2 := Lib.hid (OneF.made hE hB2)
  clear hE hB2
  by_cases hbig : 64 < n
  · have d1 : (64 : Int) < (n : Int) := by omega
    go_wp2_with fail
    go_ret
    exact ⟨rfl, HB1.out.trans (HO2.out.hB.mono HB1.out.size)⟩
  have d1 : ¬ (64 : Int) < (n : Int) := by omega
  by_cases hbig2 : 100 < n2
  · have d2 : (100 : Int) < (n2 : Int) := by omega
    go_wp2_with fail
    go_ret
    exact ⟨rfl, HB1.out.trans (HO2.out.hB.mono HB1.out.size)⟩
  have d2 : ¬ (100 : Int) < (n2 : Int) := by omega
  go_wp2_with fail
  go_loopw [7] (fun vi wr => ∃ i : Nat, vi = .int .i64 (i : Int) ∧ i ≤ n ∧ (∀ l ∈ xs.take i, l.length ≤ 1000) ∧ OneF 77 w1 wr (fun _ => False) e0 ⟨7, xs.take i, 0, []⟩) (fun vi _ => 400 - (intOf vi).toNat)
  case atStart => exact ⟨0, rfl, by omega, by simp, HO2.out⟩
  case round =>
    obtain ⟨i, rfl, hi, hsm, hO1⟩ := hrel
    clear HO2
    have HS := Lib.hid (And.intro hsm hO1)
    clear hsm hO1
    by_cases hin : i < n
    · have d3 : (i : Int) < (n : Int) := by omega
      obtain ⟨ax, B, d, rfl, hx0, hx1, hx2⟩ := at_kT (Kd.C_below HX.out (HB1.out.trans (HS.out.2.hB.mono HB1.out.size))) i hin
      obtain ⟨t, ht⟩ : ∃ t, t = xs.getD i [] := ⟨_, rfl⟩
      rw [← ht] at hx0 hx1 hx2
      obtain ⟨m, hm⟩ : ∃ m, m = t.length := ⟨_, rfl⟩
      rw [← hm] at hx0 hx1 hx2
      have HT := Lib.hid (And.intro ht (And.intro hm (And.intro hx1 hx2)))
      clear ht hm hx1 hx2
      by_cases hlong : 1000 < m
      · have d5 : (1000 : Int) < (m : Int) := by omega
        go_wp2_with fail
        go_ret
        exact ⟨rfl, HB1.out.trans (HS.out.2.hB.mono HB1.out.size)⟩
      · have d5 : ¬ (1000 : Int) < (m : Int) := by omega
        obtain ⟨ht, hm, hx1, hx2⟩ := HT.out
        have hkl : (xs.take i).length = i := by have := HN.out.1; rw [List.length_take]; omega
        have hsd := HS.out.2.step (fun S h => send_any wr w1.heap.size e0 S ⟨7, xs.take i, 0, []⟩ h (by show (xs.take i).length ≤ 64; omega) B m d t hm.symm hx2 hx1 (by omega))
        have hte : xs.take (i + 1) = xs.take i ++ [t] := by
          rw [ht, List.take_add_one, List.getElem?_eq_getElem (by have := HN.out.1; omega), List.getD_eq_getElem?_getD, List.getElem?_eq_getElem (by have := HN.out.1; omega)]
          rfl
        have hse : sendE ⟨7, xs.take i, 0, []⟩ t = ⟨7, xs.take (i + 1), 0, []⟩ := by
          unfold sendE sendOk
          rw [if_pos (decide_eq_true ⟨by omega, by show (xs.take i).length ≠ 64; omega⟩), hte]
        rw [hse] at hsd
        have HSD := Lib.hid hsd
        have HSM := Lib.hid (show ∀ l ∈ xs.take (i + 1), l.length ≤ 1000 by
          intro l hl
          rw [hte, List.mem_append, List.mem_singleton] at hl
          rcases hl with hl | rfl
          · exact HS.out.1 l hl
          · omega)
        clear hsd hse hte ht hm hx1 hx2 HT
        go_wp2_with fail
        refine HSD.out.mono ?_
        rintro r w3 ⟨rfl, hO3, _⟩
        have HO3 := Lib.hid hO3
        clear hO3 HSD HS
        go_wp2_with fail
        refine ⟨⟨i + 1, by go_num, by omega, HSM.out, HO3.out⟩, by simp [intOf]; omega⟩
    · obtain rfl : n = i := by omega
      have d3 : ¬ (n : Int) < (n : Int) := by omega
      have hall : xs.take n = xs := List.take_of_length_le (by have := HN.out.1; omega)
      have hS := HS.out
      rw [hall] at hS
      have HS := Lib.hid hS
      clear hS hall
      go_wp2_with fail
      go_loopw [8, 9] (fun vt vi wr => ∃ (th j : Nat), vt = .int .i64 (th : Int) ∧ vi = .int .i64 (j : Int) ∧ th ≤ n ∧ j ≤ n2 + 1 ∧ OneF 77 w1 wr (fun _ => False) e0 ⟨7, xs, th, []⟩) (fun _ vi _ => 400 - (intOf vi).toNat)
      case atStart => exact ⟨0, 0, rfl, rfl, by omega, by omega, HS.out.2⟩
      case round =>
        obtain ⟨th, j, rfl, rfl, hth, hj, hO3⟩ := hrel
        have HSM := Lib.hid HS.out.1
        clear HS
        have HO3 := Lib.hid hO3
        clear hO3
        by_cases hjn : j ≤ n2
        · have d4 : (j : Int) ≤ (n2 : Int) := by omega
          go_wp2_with fail
          refine (HO3.out.look (fun S h => tick_any _ w1.heap.size e0 S _ h (by show (0 : Nat) ≤ _; omega) (by have := HN.out.1; show xs.length ≤ _; omega) (by show th ≤ _; omega) (fun l hl => by have := HSM.out l hl; omega))).mono ?_
          rintro r w4 ⟨v, rfl, hR, hB⟩
          have HO4 := Lib.hid (HO3.out.below hB)
          have hR : k24.R 24 w4 _ (fun _ => True) v (tickE ⟨7, xs, th, []⟩) := hR
          obtain ⟨Al, cl, rfl, hcl, hCl⟩ := Kd.R_reads hR
          obtain ⟨nn, hnn⟩ : ∃ nn, nn = winN n th := ⟨_, rfl⟩
          have hL : (tickE ⟨7, xs, th, []⟩).length = max nn 1 := by rw [tick_len, hnn]; show max (winN xs.length th) 1 = _; rw [← HN.out.1]
          rw [hL] at hcl hCl ⊢
          have hmin : min ((n : Int) - (th : Int)) 4 = (nn : Int) := by rw [hnn]; unfold winN; omega
          have hnb : nn ≤ 4 ∧ th + nn ≤ n := by rw [hnn]; unfold winN; omega
          obtain ⟨L, hLe⟩ : ∃ L, L = max nn 1 := ⟨_, rfl⟩
          rw [← hLe] at hcl hCl ⊢
          have HC4 := Lib.hid (And.intro hCl (And.intro hnn hmin))
          have HL := Lib.hid hLe
          clear hR hB hCl hnn hL hmin hLe
          go_upto_region 17 with (fail)
          rw [HC4.out.2.2]
          have hmx : max (nn : Int) 1 = (L : Int) := by have := HL.out; omega
          have hne : ((L : Int) != max (nn : Int) 1) = false := by rw [hmx]; simp
          go_wp2_with fail
          clear hmx hne
          go_loopw [12] (fun vk wq => ∃ k : Nat, vk = .int .i64 (k : Int) ∧ k ≤ nn ∧ Below w4.heap.size w4 wq) (fun vk _ => 400 - (intOf vk).toNat)
          case atStart => exact ⟨0, rfl, by omega, Below.refl _ _⟩
          case round =>
            obtain ⟨k, rfl, hk, hBq⟩ := hrel
            have HBq := Lib.hid hBq
            clear hBq
            by_cases hkn : k < nn
            · have d6 : (k : Int) < (nn : Int) := by omega
              have hLL := HL.out
              have d7 : (k : Int) < (L : Int) := by omega
              have hlt : th + k < xs.length := by have := HN.out.1; omega
              have hth0 : (⟨7, xs, th, []⟩ : E).sent[th + k]? = some (xs.getD (th + k) []) := by
                show xs[th + k]? = _
                rw [List.getElem?_eq_getElem hlt, List.getD_eq_getElem?_getD, List.getElem?_eq_getElem hlt]
                rfl
              obtain ⟨t, ht⟩ : ∃ t, t = xs.getD (th + k) [] := ⟨_, rfl⟩
              have hfr := tick_at ⟨7, xs, th, []⟩ k (by show k < winN xs.length th; rw [← HN.out.1, ← HC4.out.2.1]; exact hkn) _ hth0
              rw [← ht] at hfr
              obtain ⟨al, Bf, df, rfl, f0, f1, f2, f3, f4, f5, f6⟩ := at_24 (Kd.C_below HC4.out.1 HBq.out) k (by omega) _ hfr
              obtain ⟨ax, Bx, dx, rfl, x0, x1, x2⟩ := at_kT (Kd.C_below HX.out (HB1.out.trans ((HO4.out.hB.trans (HBq.out.mono HO4.out.hB.size)).mono HB1.out.size))) (th + k) (by omega)
              rw [← ht] at x0 x1 x2
              unfold frameOf at f0 f1 f2 f3 f4 f5 f6
              simp only [List.length_nil, Int.natCast_zero] at f0 f1 f2 f3 f4 f5 f6
              have HF := Lib.hid (And.intro f6 x2)
              have d8 : ((th + k : Nat) : Int) < (n : Int) := by omega
              have d9 : (th : Int) + (k : Int) < (n : Int) := by omega
              clear f5 f6 x1 x2 hfr hth0 ht hlt hLL
              go_upto_region 22 with (fail)
              refine start_ (S := fun w' => Below wr.heap.size wr w' ∧ w'.cell? (al.add (k * 5)) = some (.int .i64 7) ∧ w'.cell? ⟨(al.add (k * 5)).block, (al.add (k * 5)).off + 1, none⟩ = some (.int .i64 0) ∧ w'.cell? ⟨(al.add (k * 5)).block, (al.add (k * 5)).off + 2, none⟩ = some (.bool true) ∧ w'.cell? ⟨(al.add (k * 5)).block, (al.add (k * 5)).off + 3, none⟩ = some (.int .i64 ((th + k : Nat) : Int)) ∧ w'.cell? ⟨(al.add (k * 5)).block, (al.add (k * 5)).off + 4, none⟩ = some (.slice Bf t.length df) ∧ w'.cell? (ax.add (th + k)) = some (.slice Bx t.length dx)) (ds := []) (n := 49) #[false, false, false, false, false, false, false, false, false, false, false, false, false, false, false, false, false, false, false, false, false, false, false, false, false, false, false, false, false, false, false, false, false, false, false, false, false, false, false, false, false, false, false, false, false, false, false, false, false] rfl rfl rfl ?hS0 (fun hHeld => ?hrun)
              case hS0 => exact ⟨(Below.refl _ _).drew, f0, f1, f2, f3, f4, x0⟩
              case hrun =>
                refine pure_ (i := 0) (N := some 75) (v := ?_) (a' := ?_) #[true, false, false, false, false, false, false, false, false, false, false, false, false, false, false, false, false, false, false, false, false, false, false, false, false, false, false, false, false, false, false, false, false, false, false, false, false, false, false, false, false, false, false, false, false, false, false, false, false] rfl rfl (by kernel_rfl) (fun _ _ _ h => h) (Or.inl ⟨by rfl, ?_⟩) ?_ ?_
                rotate_left
                · intro w'
                  go_simp
                  first | done | with_reducible rfl
                rotate_left
                · simp only [Act.put, List.setIfInBounds_toArray, List.set_cons_zero, List.set_cons_succ, i64_w, i32_w]
                  rfl
                refine pure_ (i := 1) (N := some 76) (v := ?_) (a' := ?_) #[true, true, false, false, false, false, false, false, false, false, false, false, false, false, false, false, false, false, false, false, false, false, false, false, false, false, false, false, false, false, false, false, false, false, false, false, false, false, false, false, false, false, false, false, false, false, false, false, false] rfl rfl (by kernel_rfl) (fun _ _ _ h => h) (Or.inl ⟨by rfl, ?_⟩) ?_ ?_
                rotate_left
                · intro w'
                  go_simp
                  first | done | with_reducible rfl
                rotate_left
                · simp only [Act.put, List.setIfInBounds_toArray, List.set_cons_zero, List.set_cons_succ, i64_w, i32_w]
                  rfl
                refine pure_ (i := 2) (N := some 77) (v := ?_) (a' := ?_) #[true, true, true, false, false, false, false, false, false, false, false, false, false, false, false, false, false, false, false, false, false, false, false, false, false, false, false, false, false, false, false, false, false, false, false, false, false, false, false, false, false, false, false, false, false, false, false, false, false] rfl rfl (by kernel_rfl) (fun _ _ _ h => h) (Or.inl ⟨by rfl, ?_⟩) ?_ ?_
                rotate_left
                · intro w'
                  go_simp
                  first | done | with_reducible rfl
                rotate_left
                · simp only [Act.put, List.setIfInBounds_toArray, List.set_cons_zero, List.set_cons_succ, i64_w, i32_w]
                  rfl
                refine pure_ (i := 3) (N := some 78) (v := ?_) (a' := ?_) #[true, true, true, true, false, false, false, false, false, false, false, false, false, false, false, false, false, false, false, false, false, false, false, false, false, false, false, false, false, false, false, false, false, false, false, false, false, false, false, false, false, false, false, false, false, false, false, false, false] rfl rfl (by kernel_rfl) (fun _ _ _ h => h) (Or.inl ⟨by rfl, ?_⟩) ?_ ?_
                rotate_left
                · intro w'
                  go_simp
                  first | done | with_reducible rfl
                rotate_left
                · simp only [Act.put, List.setIfInBounds_toArray, List.set_cons_zero, List.set_cons_succ, i64_w, i32_w]
                  rfl
                refine take_ (i := 4) (N := some 79) (v := ?_) (a' := ?_) #[true, true, true, true, true, false, false, false, false, false, false, false, false, false, false, false, false, false, false, false, false, false, false, false, false, false, false, false, false, false, false, false, false, false, false, false, false, false, false, false, false, false, false, false, false, false, false, false, false] rfl rfl (by kernel_rfl) (fun _ _ _ h => h) (Or.inl ⟨by rfl, ?_⟩) hHeld ?_ ?_
                rotate_left
                · rintro w' ⟨hbe, k0, k1, k2, k3, k4, k5⟩
                  go_simp
                  first | done | with_reducible rfl
                rotate_left
                · simp only [Act.put, List.setIfInBounds_toArray, List.set_cons_zero, List.set_cons_succ, i64_w, i32_w]
                  rfl
                refine pure_ (i := 5) (N := some 80) (v := ?_) (a' := ?_) #[true, true, true, true, true, true, false, false, false, false, false, false, false, false, false, false, false, false, false, false, false, false, false, false, false, false, false, false, false, false, false, false, false, false, false, false, false, false, false, false, false, false, false, false, false, false, false, false, false] rfl rfl (by kernel_rfl) (fun _ _ _ h => h) (Or.inl ⟨by rfl, ?_⟩) ?_ ?_
                rotate_left
                · intro w'
                  go_simp
                  first | done | with_reducible rfl
                rotate_left
                · simp only [Act.put, List.setIfInBounds_toArray, List.set_cons_zero, List.set_cons_succ, i64_w, i32_w]
                  rfl
                refine pure_ (i := 6) (N := some 81) (v := ?_) (a' := ?_) #[true, true, true, true, true, true, true, false, false, false, false, false, false, false, false, false, false, false, false, false, false, false, false, false, false, false, false, false, false, false, false, false, false, false, false, false, false, false, false, false, false, false, false, false, false, false, false, false, false] rfl rfl (by kernel_rfl) (fun _ _ _ h => h) (Or.inl ⟨by rfl, ?_⟩) ?_ ?_
                rotate_left
                · intro w'
                  go_simp
                  first | done | with_reducible rfl
                rotate_left
                · simp only [Act.put, List.setIfInBounds_toArray, List.set_cons_zero, List.set_cons_succ, i64_w, i32_w]
                  rfl
                refine pure_ (i := 7) (N := some 82) (v := ?_) (a' := ?_) #[true, true, true, true, true, true, true, true, false, false, false, false, false, false, false, false, false, false, false, false, false, false, false, false, false, false, false, false, false, false, false, false, false, false, false, false, false, false, false, false, false, false, false, false, false, false, false, false, false] rfl rfl (by kernel_rfl) (fun _ _ _ h => h) (Or.inl ⟨by rfl, ?_⟩) ?_ ?_
                rotate_left
                · intro w'
                  go_simp
                  first | done | with_reducible rfl
                rotate_left
                · simp only [Act.put, List.setIfInBounds_toArray, List.set_cons_zero, List.set_cons_succ, i64_w, i32_w]
                  rfl
                refine pure_ (i := 8) (N := some 83) (v := ?_) (a' := ?_) #[true, true, true, true, true, true, true, true, true, false, false, false, false, false, false, false, false, false, false, false, false, false, false, false, false, false, false, false, false, false, false, false, false, false, false, false, false, false, false, false, false, false, false, false, false, false, false, false, false] rfl rfl (by kernel_rfl) (fun _ _ _ h => h) (Or.inl ⟨by rfl, ?_⟩) ?_ ?_
                rotate_left
                · intro w'
                  go_simp
                  first | done | with_reducible rfl
                rotate_left
                · simp only [Act.put, List.setIfInBounds_toArray, List.set_cons_zero, List.set_cons_succ, i64_w, i32_w]
                  rfl
                refine pure_ (i := 9) (N := some 84) (v := ?_) (a' := ?_) #[true, true, true, true, true, true, true, true, true, true, false, false, false, false, false, false, false, false, false, false, false, false, false, false, false, false, false, false, false, false, false, false, false, false, false, false, false, false, false, false, false, false, false, false, false, false, false, false, false] rfl rfl (by kernel_rfl) (fun _ _ _ h => h) (Or.inl ⟨by rfl, ?_⟩) ?_ ?_
                rotate_left
                · intro w'
                  go_simp
                  first | done | with_reducible rfl
                rotate_left
                · simp only [Act.put, List.setIfInBounds_toArray, List.set_cons_zero, List.set_cons_succ, i64_w, i32_w]
                  rfl
                refine pure_ (i := 10) (N := some 85) (v := ?_) (a' := ?_) #[true, true, true, true, true, true, true, true, true, true, true, false, false, false, false, false, false, false, false, false, false, false, false, false, false, false, false, false, false, false, false, false, false, false, false, false, false, false, false, false, false, false, false, false, false, false, false, false, false] rfl rfl (by kernel_rfl) (fun _ _ _ h => h) (Or.inl ⟨by rfl, ?_⟩) ?_ ?_
                rotate_left
                · intro w'
                  go_simp
                  first | done | with_reducible rfl
                rotate_left
                · simp only [Act.put, List.setIfInBounds_toArray, List.set_cons_zero, List.set_cons_succ, i64_w, i32_w]
                  rfl
                refine take_ (i := 11) (N := some 86) (v := ?_) (a' := ?_) #[true, true, true, true, true, true, true, true, true, true, true, true, false, false, false, false, false, false, false, false, false, false, false, false, false, false, false, false, false, false, false, false, false, false, false, false, false, false, false, false, false, false, false, false, false, false, false, false, false] rfl rfl (by kernel_rfl) (fun _ _ _ h => h) (Or.inl ⟨by rfl, ?_⟩) hHeld ?_ ?_
                rotate_left
                · rintro w' ⟨hbe, k0, k1, k2, k3, k4, k5⟩
                  go_simp
                  first | done | with_reducible rfl
                rotate_left
                · simp only [Act.put, List.setIfInBounds_toArray, List.set_cons_zero, List.set_cons_succ, i64_w, i32_w]
                  rfl
                refine pure_ (i := 12) (N := some 87) (v := ?_) (a' := ?_) #[true, true, true, true, true, true, true, true, true, true, true, true, true, false, false, false, false, false, false, false, false, false, false, false, false, false, false, false, false, false, false, false, false, false, false, false, false, false, false, false, false, false, false, false, false, false, false, false, false] rfl rfl (by kernel_rfl) (fun _ _ _ h => h) (Or.inl ⟨by rfl, ?_⟩) ?_ ?_
                rotate_left
                · intro w'
                  go_simp
                  first | done | with_reducible rfl
                rotate_left
                · simp only [Act.put, List.setIfInBounds_toArray, List.set_cons_zero, List.set_cons_succ, i64_w, i32_w]
                  rfl
                refine pure_ (i := 13) (N := some 88) (v := ?_) (a' := ?_) #[true, true, true, true, true, true, true, true, true, true, true, true, true, true, false, false, false, false, false, false, false, false, false, false, false, false, false, false, false, false, false, false, false, false, false, false, false, false, false, false, false, false, false, false, false, false, false, false, false] rfl rfl (by kernel_rfl) (fun _ _ _ h => h) (Or.inl ⟨by rfl, ?_⟩) ?_ ?_
                rotate_left
                · intro w'
                  go_simp
                  first | done | with_reducible rfl
                rotate_left
                · simp only [Act.put, List.setIfInBounds_toArray, List.set_cons_zero, List.set_cons_succ, i64_w, i32_w]
                  rfl
                refine pure_ (i := 14) (N := some 89) (v := ?_) (a' := ?_) #[true, true, true, true, true, true, true, true, true, true, true, true, true, true, true, false, false, false, false, false, false, false, false, false, false, false, false, false, false, false, false, false, false, false, false, false, false, false, false, false, false, false, false, false, false, false, false, false, false] rfl rfl (by kernel_rfl) (fun _ _ _ h => h) (Or.inl ⟨by rfl, ?_⟩) ?_ ?_
                rotate_left
                · intro w'
                  go_simp; rw [show IntKind.i64.wrap ((th : Int) + (k : Int)) = ((th + k : Nat) : Int) from by rw [i64_w]; unfold wrap64; omega]
                  first | done | with_reducible rfl
                rotate_left
                · simp only [Act.put, List.setIfInBounds_toArray, List.set_cons_zero, List.set_cons_succ, i64_w, i32_w]
                  rfl
                refine pure_ (i := 15) (N := some 90) (v := ?_) (a' := ?_) #[true, true, true, true, true, true, true, true, true, true, true, true, true, true, true, true, false, false, false, false, false, false, false, false, false, false, false, false, false, false, false, false, false, false, false, false, false, false, false, false, false, false, false, false, false, false, false, false, false] rfl rfl (by kernel_rfl) (fun _ _ _ h => h) (Or.inl ⟨by rfl, ?_⟩) ?_ ?_
                rotate_left
                · intro w'
                  go_simp
                  first | done | with_reducible rfl
                rotate_left
                · simp only [Act.put, List.setIfInBounds_toArray, List.set_cons_zero, List.set_cons_succ, i64_w, i32_w]
                  rfl
                refine pure_ (i := 16) (N := some 91) (v := ?_) (a' := ?_) #[true, true, true, true, true, true, true, true, true, true, true, true, true, true, true, true, true, false, false, false, false, false, false, false, false, false, false, false, false, false, false, false, false, false, false, false, false, false, false, false, false, false, false, false, false, false, false, false, false] rfl rfl (by kernel_rfl) (fun _ _ _ h => h) (Or.inl ⟨by rfl, ?_⟩) ?_ ?_
                rotate_left
                · intro w'
                  go_simp
                  first | done | with_reducible rfl
                rotate_left
                · simp only [Act.put, List.setIfInBounds_toArray, List.set_cons_zero, List.set_cons_succ, i64_w, i32_w]
                  rfl
                refine pure_ (i := 17) (N := some 92) (v := ?_) (a' := ?_) #[true, true, true, true, true, true, true, true, true, true, true, true, true, true, true, true, true, true, false, false, false, false, false, false, false, false, false, false, false, false, false, false, false, false, false, false, false, false, false, false, false, false, false, false, false, false, false, false, false] rfl rfl (by kernel_rfl) (fun _ _ _ h => h) (Or.inl ⟨by rfl, ?_⟩) ?_ ?_
                rotate_left
                · intro w'
                  go_simp
                  first | done | with_reducible rfl
                rotate_left
                · simp only [Act.put, List.setIfInBounds_toArray, List.set_cons_zero, List.set_cons_succ, i64_w, i32_w]
                  rfl
                refine pure_ (i := 18) (N := some 93) (v := ?_) (a' := ?_) #[true, true, true, true, true, true, true, true, true, true, true, true, true, true, true, true, true, true, true, false, false, false, false, false, false, false, false, false, false, false, false, false, false, false, false, false, false, false, false, false, false, false, false, false, false, false, false, false, false] rfl rfl (by kernel_rfl) (fun _ _ _ h => h) (Or.inl ⟨by rfl, ?_⟩) ?_ ?_
                rotate_left
                · intro w'
                  go_simp
                  first | done | with_reducible rfl
                rotate_left
                · simp only [Act.put, List.setIfInBounds_toArray, List.set_cons_zero, List.set_cons_succ, i64_w, i32_w]
                  rfl
                refine pure_ (i := 19) (N := some 94) (v := ?_) (a' := ?_) #[true, true, true, true, true, true, true, true, true, true, true, true, true, true, true, true, true, true, true, true, false, false, false, false, false, false, false, false, false, false, false, false, false, false, false, false, false, false, false, false, false, false, false, false, false, false, false, false, false] rfl rfl (by kernel_rfl) (fun _ _ _ h => h) (Or.inl ⟨by rfl, ?_⟩) ?_ ?_
                rotate_left
                · intro w'
                  go_simp
                  first | done | with_reducible rfl
                rotate_left
                · simp only [Act.put, List.setIfInBounds_toArray, List.set_cons_zero, List.set_cons_succ, i64_w, i32_w]
                  rfl
                refine pure_ (i := 20) (N := some 95) (v := ?_) (a' := ?_) #[true, true, true, true, true, true, true, true, true, true, true, true, true, true, true, true, true, true, true, true, true, false, false, false, false, false, false, false, false, false, false, false, false, false, false, false, false, false, false, false, false, false, false, false, false, false, false, false, false] rfl rfl (by kernel_rfl) (fun _ _ _ h => h) (Or.inl ⟨by rfl, ?_⟩) ?_ ?_
                rotate_left
                · intro w'
                  go_simp
                  first | done | with_reducible rfl
                rotate_left
                · simp only [Act.put, List.setIfInBounds_toArray, List.set_cons_zero, List.set_cons_succ, i64_w, i32_w]
                  rfl
                refine pure_ (i := 21) (N := some 96) (v := ?_) (a' := ?_) #[true, true, true, true, true, true, true, true, true, true, true, true, true, true, true, true, true, true, true, true, true, true, false, false, false, false, false, false, false, false, false, false, false, false, false, false, false, false, false, false, false, false, false, false, false, false, false, false, false] rfl rfl (by kernel_rfl) (fun _ _ _ h => h) (Or.inl ⟨by rfl, ?_⟩) ?_ ?_
                rotate_left
                · intro w'
                  go_simp
                  first | done | with_reducible rfl
                rotate_left
                · simp only [Act.put, List.setIfInBounds_toArray, List.set_cons_zero, List.set_cons_succ, i64_w, i32_w]
                  rfl
                refine take_ (i := 22) (N := some 97) (v := ?_) (a' := ?_) #[true, true, true, true, true, true, true, true, true, true, true, true, true, true, true, true, true, true, true, true, true, true, true, false, false, false, false, false, false, false, false, false, false, false, false, false, false, false, false, false, false, false, false, false, false, false, false, false, false] rfl rfl (by kernel_rfl) (fun _ _ _ h => h) (Or.inl ⟨by rfl, ?_⟩) hHeld ?_ ?_
                rotate_left
                · rintro w' ⟨hbe, k0, k1, k2, k3, k4, k5⟩
                  go_simp
                  first | done | with_reducible rfl
                rotate_left
                · simp only [Act.put, List.setIfInBounds_toArray, List.set_cons_zero, List.set_cons_succ, i64_w, i32_w]
                  rfl
                refine take_ (i := 23) (N := some 98) (v := ?_) (a' := ?_) #[true, true, true, true, true, true, true, true, true, true, true, true, true, true, true, true, true, true, true, true, true, true, true, true, false, false, false, false, false, false, false, false, false, false, false, false, false, false, false, false, false, false, false, false, false, false, false, false, false] rfl rfl (by kernel_rfl) (fun _ _ _ h => h) (Or.inl ⟨by rfl, ?_⟩) hHeld ?_ ?_
                rotate_left
                · rintro w' ⟨hbe, k0, k1, k2, k3, k4, k5⟩
                  go_simp; rw [Kd.C_string (e := 5) Tryd.underlying22 Tryd.underlying5 Tryd.underlying9 (Kd.C_below HF.out.1 hbe)]; simp only [Result.andThen]
                  first | done | with_reducible rfl
                rotate_left
                · simp only [Act.put, List.setIfInBounds_toArray, List.set_cons_zero, List.set_cons_succ, i64_w, i32_w]
                  rfl
                refine pure_ (i := 24) (N := some 99) (v := ?_) (a' := ?_) #[true, true, true, true, true, true, true, true, true, true, true, true, true, true, true, true, true, true, true, true, true, true, true, true, true, false, false, false, false, false, false, false, false, false, false, false, false, false, false, false, false, false, false, false, false, false, false, false, false] rfl rfl (by kernel_rfl) (fun _ _ _ h => h) (Or.inl ⟨by rfl, ?_⟩) ?_ ?_
                rotate_left
                · intro w'
                  go_simp
                  first | done | with_reducible rfl
                rotate_left
                · simp only [Act.put, List.setIfInBounds_toArray, List.set_cons_zero, List.set_cons_succ, i64_w, i32_w]
                  rfl
                refine pure_ (i := 25) (N := some 100) (v := ?_) (a' := ?_) #[true, true, true, true, true, true, true, true, true, true, true, true, true, true, true, true, true, true, true, true, true, true, true, true, true, true, false, false, false, false, false, false, false, false, false, false, false, false, false, false, false, false, false, false, false, false, false, false, false] rfl rfl (by kernel_rfl) (fun _ _ _ h => h) (Or.inl ⟨by rfl, ?_⟩) ?_ ?_
                rotate_left
                · intro w'
                  go_simp
                  first | done | with_reducible rfl
                rotate_left
                · simp only [Act.put, List.setIfInBounds_toArray, List.set_cons_zero, List.set_cons_succ, i64_w, i32_w]
                  rfl
                refine pure_ (i := 26) (N := some 101) (v := ?_) (a' := ?_) #[true, true, true, true, true, true, true, true, true, true, true, true, true, true, true, true, true, true, true, true, true, true, true, true, true, true, true, false, false, false, false, false, false, false, false, false, false, false, false, false, false, false, false, false, false, false, false, false, false] rfl rfl (by kernel_rfl) (fun _ _ _ h => h) (Or.inl ⟨by rfl, ?_⟩) ?_ ?_
                rotate_left
                · intro w'
                  go_simp
                  first | done | with_reducible rfl
                rotate_left
                · simp only [Act.put, List.setIfInBounds_toArray, List.set_cons_zero, List.set_cons_succ, i64_w, i32_w]
                  rfl
                refine pure_ (i := 27) (N := some 102) (v := ?_) (a' := ?_) #[true, true, true, true, true, true, true, true, true, true, true, true, true, true, true, true, true, true, true, true, true, true, true, true, true, true, true, true, false, false, false, false, false, false, false, false, false, false, false, false, false, false, false, false, false, false, false, false, false] rfl rfl (by kernel_rfl) (fun _ _ _ h => h) (Or.inl ⟨by rfl, ?_⟩) ?_ ?_
                rotate_left
                · intro w'
                  go_simp; rw [show IntKind.i64.wrap ((th : Int) + (k : Int)) = ((th + k : Nat) : Int) from by rw [i64_w]; unfold wrap64; omega]
                  first | done | with_reducible rfl
                rotate_left
                · simp only [Act.put, List.setIfInBounds_toArray, List.set_cons_zero, List.set_cons_succ, i64_w, i32_w]
                  rfl
                refine pure_ (i := 28) (N := some 103) (v := ?_) (a' := ?_) #[true, true, true, true, true, true, true, true, true, true, true, true, true, true, true, true, true, true, true, true, true, true, true, true, true, true, true, true, true, false, false, false, false, false, false, false, false, false, false, false, false, false, false, false, false, false, false, false, false] rfl rfl (by kernel_rfl) (fun _ _ _ h => h) (Or.inl ⟨by rfl, ?_⟩) ?_ ?_
                rotate_left
                · intro w'
                  go_simp; rw [if_pos (by omega), show ((th : Int) + (k : Int)).toNat = th + k by omega]
                  first | done | with_reducible rfl
                rotate_left
                · simp only [Act.put, List.setIfInBounds_toArray, List.set_cons_zero, List.set_cons_succ, i64_w, i32_w]
                  rfl
                refine take_ (i := 29) (N := some 104) (v := ?_) (a' := ?_) #[true, true, true, true, true, true, true, true, true, true, true, true, true, true, true, true, true, true, true, true, true, true, true, true, true, true, true, true, true, true, false, false, false, false, false, false, false, false, false, false, false, false, false, false, false, false, false, false, false] rfl rfl (by kernel_rfl) (fun _ _ _ h => h) (Or.inl ⟨by rfl, ?_⟩) hHeld ?_ ?_
                rotate_left
                · rintro w' ⟨hbe, k0, k1, k2, k3, k4, k5⟩
                  go_simp
                  first | done | with_reducible rfl
                rotate_left
                · simp only [Act.put, List.setIfInBounds_toArray, List.set_cons_zero, List.set_cons_succ, i64_w, i32_w]
                  rfl
                refine take_ (i := 30) (N := some 105) (v := ?_) (a' := ?_) #[true, true, true, true, true, true, true, true, true, true, true, true, true, true, true, true, true, true, true, true, true, true, true, true, true, true, true, true, true, true, true, false, false, false, false, false, false, false, false, false, false, false, false, false, false, false, false, false, false] rfl rfl (by kernel_rfl) (fun _ _ _ h => h) (Or.inl ⟨by rfl, ?_⟩) hHeld ?_ ?_
                rotate_left
                · rintro w' ⟨hbe, k0, k1, k2, k3, k4, k5⟩
                  go_simp; rw [Kd.C_string (e := 5) Tryd.underlying22 Tryd.underlying5 Tryd.underlying9 (Kd.C_below HF.out.2 hbe)]; simp only [Result.andThen]
                  first | done | with_reducible rfl
                rotate_left
                · simp only [Act.put, List.setIfInBounds_toArray, List.set_cons_zero, List.set_cons_succ, i64_w, i32_w]
                  rfl
                refine pure_ (i := 31) (N := some 106) (v := ?_) (a' := ?_) #[true, true, true, true, true, true, true, true, true, true, true, true, true, true, true, true, true, true, true, true, true, true, true, true, true, true, true, true, true, true, true, true, false, false, false, false, false, false, false, false, false, false, false, false, false, false, false, false, false] rfl rfl (by kernel_rfl) (fun _ _ _ h => h) (Or.inl ⟨by rfl, ?_⟩) ?_ ?_
                rotate_left
                · intro w'
                  go_simp
                  first | done | with_reducible rfl
                rotate_left
                · simp only [Act.put, List.setIfInBounds_toArray, List.set_cons_zero, List.set_cons_succ, i64_w, i32_w]
                  rfl
                refine pure_ (i := 32) (N := some 107) (v := ?_) (a' := ?_) #[true, true, true, true, true, true, true, true, true, true, true, true, true, true, true, true, true, true, true, true, true, true, true, true, true, true, true, true, true, true, true, true, true, false, false, false, false, false, false, false, false, false, false, false, false, false, false, false, false] rfl rfl (by kernel_rfl) (fun _ _ _ h => h) (Or.inl ⟨by rfl, ?_⟩) ?_ ?_
                rotate_left
                · intro w'
                  go_simp
                  first | done | with_reducible rfl
                rotate_left
                · simp only [Act.put, List.setIfInBounds_toArray, List.set_cons_zero, List.set_cons_succ, i64_w, i32_w]
                  rfl
                refine pure_ (i := 33) (N := some 108) (v := ?_) (a' := ?_) #[true, true, true, true, true, true, true, true, true, true, true, true, true, true, true, true, true, true, true, true, true, true, true, true, true, true, true, true, true, true, true, true, true, true, false, false, false, false, false, false, false, false, false, false, false, false, false, false, false] rfl rfl (by kernel_rfl) (fun _ _ _ h => h) (Or.inl ⟨by rfl, ?_⟩) ?_ ?_
                rotate_left
                · intro w'
                  go_simp
                  first | done | with_reducible rfl
                rotate_left
                · simp only [Act.put, List.setIfInBounds_toArray, List.set_cons_zero, List.set_cons_succ, i64_w, i32_w]
                  rfl
                refine pure_ (i := 34) (N := some 109) (v := ?_) (a' := ?_) #[true, true, true, true, true, true, true, true, true, true, true, true, true, true, true, true, true, true, true, true, true, true, true, true, true, true, true, true, true, true, true, true, true, true, true, false, false, false, false, false, false, false, false, false, false, false, false, false, false] rfl rfl (by kernel_rfl) (fun _ _ _ h => h) (Or.inl ⟨by rfl, ?_⟩) ?_ ?_
                rotate_left
                · intro w'
                  go_simp
                  first | done | with_reducible rfl
                rotate_left
                · simp only [Act.put, List.setIfInBounds_toArray, List.set_cons_zero, List.set_cons_succ, i64_w, i32_w]
                  rfl
                refine pure_ (i := 35) (N := some 110) (v := ?_) (a' := ?_) #[true, true, true, true, true, true, true, true, true, true, true, true, true, true, true, true, true, true, true, true, true, true, true, true, true, true, true, true, true, true, true, true, true, true, true, true, false, false, false, false, false, false, false, false, false, false, false, false, false] rfl rfl (by kernel_rfl) (fun _ _ _ h => h) (Or.inl ⟨by rfl, ?_⟩) ?_ ?_
                rotate_left
                · intro w'
                  go_simp
                  first | done | with_reducible rfl
                rotate_left
                · simp only [Act.put, List.setIfInBounds_toArray, List.set_cons_zero, List.set_cons_succ, i64_w, i32_w]
                  rfl
                refine pure_ (i := 36) (N := some 111) (v := ?_) (a' := ?_) #[true, true, true, true, true, true, true, true, true, true, true, true, true, true, true, true, true, true, true, true, true, true, true, true, true, true, true, true, true, true, true, true, true, true, true, true, true, false, false, false, false, false, false, false, false, false, false, false, false] rfl rfl (by kernel_rfl) (fun _ _ _ h => h) (Or.inl ⟨by rfl, ?_⟩) ?_ ?_
                rotate_left
                · intro w'
                  go_simp
                  first | done | with_reducible rfl
                rotate_left
                · simp only [Act.put, List.setIfInBounds_toArray, List.set_cons_zero, List.set_cons_succ, i64_w, i32_w]
                  rfl
                refine pure_ (i := 37) (N := some 112) (v := ?_) (a' := ?_) #[true, true, true, true, true, true, true, true, true, true, true, true, true, true, true, true, true, true, true, true, true, true, true, true, true, true, true, true, true, true, true, true, true, true, true, true, true, true, false, false, false, false, false, false, false, false, false, false, false] rfl rfl (by kernel_rfl) (fun _ _ _ h => h) (Or.inl ⟨by rfl, ?_⟩) ?_ ?_
                rotate_left
                · intro w'
                  go_simp
                  first | done | with_reducible rfl
                rotate_left
                · simp only [Act.put, List.setIfInBounds_toArray, List.set_cons_zero, List.set_cons_succ, i64_w, i32_w]
                  rfl
                refine take_ (i := 38) (N := some 113) (v := ?_) (a' := ?_) #[true, true, true, true, true, true, true, true, true, true, true, true, true, true, true, true, true, true, true, true, true, true, true, true, true, true, true, true, true, true, true, true, true, true, true, true, true, true, true, false, false, false, false, false, false, false, false, false, false] rfl rfl (by kernel_rfl) (fun _ _ _ h => h) (Or.inl ⟨by rfl, ?_⟩) hHeld ?_ ?_
                rotate_left
                · rintro w' ⟨hbe, k0, k1, k2, k3, k4, k5⟩
                  go_simp
                  first | done | with_reducible rfl
                rotate_left
                · simp only [Act.put, List.setIfInBounds_toArray, List.set_cons_zero, List.set_cons_succ, i64_w, i32_w]
                  rfl
                refine pure_ (i := 39) (N := some 114) (v := ?_) (a' := ?_) #[true, true, true, true, true, true, true, true, true, true, true, true, true, true, true, true, true, true, true, true, true, true, true, true, true, true, true, true, true, true, true, true, true, true, true, true, true, true, true, true, false, false, false, false, false, false, false, false, false] rfl rfl (by kernel_rfl) (fun _ _ _ h => h) (Or.inl ⟨by rfl, ?_⟩) ?_ ?_
                rotate_left
                · intro w'
                  go_simp
                  first | done | with_reducible rfl
                rotate_left
                · simp only [Act.put, List.setIfInBounds_toArray, List.set_cons_zero, List.set_cons_succ, i64_w, i32_w]
                  rfl
                refine pure_ (i := 40) (N := some 115) (v := ?_) (a' := ?_) #[true, true, true, true, true, true, true, true, true, true, true, true, true, true, true, true, true, true, true, true, true, true, true, true, true, true, true, true, true, true, true, true, true, true, true, true, true, true, true, true, true, false, false, false, false, false, false, false, false] rfl rfl (by kernel_rfl) (fun _ _ _ h => h) (Or.inl ⟨by rfl, ?_⟩) ?_ ?_
                rotate_left
                · intro w'
                  go_simp
                  first | done | with_reducible rfl
                rotate_left
                · simp only [Act.put, List.setIfInBounds_toArray, List.set_cons_zero, List.set_cons_succ, i64_w, i32_w]
                  rfl
                refine pure_ (i := 41) (N := some 116) (v := ?_) (a' := ?_) #[true, true, true, true, true, true, true, true, true, true, true, true, true, true, true, true, true, true, true, true, true, true, true, true, true, true, true, true, true, true, true, true, true, true, true, true, true, true, true, true, true, true, false, false, false, false, false, false, false] rfl rfl (by kernel_rfl) (fun _ _ _ h => h) (Or.inl ⟨by rfl, ?_⟩) ?_ ?_
                rotate_left
                · intro w'
                  go_simp
                  first | done | with_reducible rfl
                rotate_left
                · simp only [Act.put, List.setIfInBounds_toArray, List.set_cons_zero, List.set_cons_succ, i64_w, i32_w]
                  rfl
                refine pure_ (i := 42) (N := some 117) (v := ?_) (a' := ?_) #[true, true, true, true, true, true, true, true, true, true, true, true, true, true, true, true, true, true, true, true, true, true, true, true, true, true, true, true, true, true, true, true, true, true, true, true, true, true, true, true, true, true, true, false, false, false, false, false, false] rfl rfl (by kernel_rfl) (fun _ _ _ h => h) (Or.inl ⟨by rfl, ?_⟩) ?_ ?_
                rotate_left
                · intro w'
                  go_simp
                  first | done | with_reducible rfl
                rotate_left
                · simp only [Act.put, List.setIfInBounds_toArray, List.set_cons_zero, List.set_cons_succ, i64_w, i32_w]
                  rfl
                refine pure_ (i := 43) (N := some 118) (v := ?_) (a' := ?_) #[true, true, true, true, true, true, true, true, true, true, true, true, true, true, true, true, true, true, true, true, true, true, true, true, true, true, true, true, true, true, true, true, true, true, true, true, true, true, true, true, true, true, true, true, false, false, false, false, false] rfl rfl (by kernel_rfl) (fun _ _ _ h => h) (Or.inl ⟨by rfl, ?_⟩) ?_ ?_
                rotate_left
                · intro w'
                  go_simp
                  first | done | with_reducible rfl
                rotate_left
                · simp only [Act.put, List.setIfInBounds_toArray, List.set_cons_zero, List.set_cons_succ, i64_w, i32_w]
                  rfl
                refine pure_ (i := 44) (N := some 119) (v := ?_) (a' := ?_) #[true, true, true, true, true, true, true, true, true, true, true, true, true, true, true, true, true, true, true, true, true, true, true, true, true, true, true, true, true, true, true, true, true, true, true, true, true, true, true, true, true, true, true, true, true, false, false, false, false] rfl rfl (by kernel_rfl) (fun _ _ _ h => h) (Or.inl ⟨by rfl, ?_⟩) ?_ ?_
                rotate_left
                · intro w'
                  go_simp
                  first | done | with_reducible rfl
                rotate_left
                · simp only [Act.put, List.setIfInBounds_toArray, List.set_cons_zero, List.set_cons_succ, i64_w, i32_w]
                  rfl
                refine pure_ (i := 45) (N := some 120) (v := ?_) (a' := ?_) #[true, true, true, true, true, true, true, true, true, true, true, true, true, true, true, true, true, true, true, true, true, true, true, true, true, true, true, true, true, true, true, true, true, true, true, true, true, true, true, true, true, true, true, true, true, true, false, false, false] rfl rfl (by kernel_rfl) (fun _ _ _ h => h) (Or.inl ⟨by rfl, ?_⟩) ?_ ?_
                rotate_left
                · intro w'
                  go_simp
                  first | done | with_reducible rfl
                rotate_left
                · simp only [Act.put, List.setIfInBounds_toArray, List.set_cons_zero, List.set_cons_succ, i64_w, i32_w]
                  rfl
                refine take_ (i := 46) (N := some 121) (v := ?_) (a' := ?_) #[true, true, true, true, true, true, true, true, true, true, true, true, true, true, true, true, true, true, true, true, true, true, true, true, true, true, true, true, true, true, true, true, true, true, true, true, true, true, true, true, true, true, true, true, true, true, true, false, false] rfl rfl (by kernel_rfl) (fun _ _ _ h => h) (Or.inl ⟨by rfl, ?_⟩) hHeld ?_ ?_
                rotate_left
                · rintro w' ⟨hbe, k0, k1, k2, k3, k4, k5⟩
                  go_simp
                  first | done | with_reducible rfl
                rotate_left
                · simp only [Act.put, List.setIfInBounds_toArray, List.set_cons_zero, List.set_cons_succ, i64_w, i32_w]
                  rfl
                refine pure_ (i := 47) (N := some 122) (v := ?_) (a' := ?_) #[true, true, true, true, true, true, true, true, true, true, true, true, true, true, true, true, true, true, true, true, true, true, true, true, true, true, true, true, true, true, true, true, true, true, true, true, true, true, true, true, true, true, true, true, true, true, true, true, false] rfl rfl (by kernel_rfl) (fun _ _ _ h => h) (Or.inl ⟨by rfl, ?_⟩) ?_ ?_
                rotate_left
                · intro w'
                  go_simp
                  first | done | with_reducible rfl
                rotate_left
                · simp only [Act.put, List.setIfInBounds_toArray, List.set_cons_zero, List.set_cons_succ, i64_w, i32_w]
                  rfl
                refine pure_ (i := 48) (N := some 123) (v := ?_) (a' := ?_) #[true, true, true, true, true, true, true, true, true, true, true, true, true, true, true, true, true, true, true, true, true, true, true, true, true, true, true, true, true, true, true, true, true, true, true, true, true, true, true, true, true, true, true, true, true, true, true, true, true] rfl rfl (by kernel_rfl) (fun _ _ _ h => h) (Or.inl ⟨by rfl, ?_⟩) ?_ ?_
                rotate_left
                · intro w'
                  go_simp
                  first | done | with_reducible rfl
                rotate_left
                · simp only [Act.put, List.setIfInBounds_toArray, List.set_cons_zero, List.set_cons_succ, i64_w, i32_w]
                  rfl
                refine done_ (by kernel_rfl) ?_
                go_wp2_with fail
                refine ⟨⟨k + 1, by go_num, by omega, HBq.out.drew⟩, by simp [intOf]; omega⟩
            · obtain rfl : nn = k := by omega
              have d6 : ¬ (nn : Int) < (nn : Int) := by omega
              rcases Nat.eq_zero_or_pos nn with hz | hz
              · subst hz
                have hLL := HL.out
                obtain rfl : L = 1 := by omega
                have hwz : winN n th = 0 := HC4.out.2.1.symm
                have hthn : th = n := by unfold winN at hwz; omega
                have htn := tick_none ⟨7, xs, th, []⟩ (by show winN xs.length th = 0; rw [← HN.out.1]; exact hwz)
                have hC4 := Kd.C_below HC4.out.1 HBq.out
                rw [htn] at hC4
                obtain ⟨al, Bf, df, rfl, f0, f1, f2, f3, f4, f5, f6⟩ := at0_24 hC4 (by omega)
                have HTH := Lib.hid hthn
                clear hLL hwz htn hC4 f5 f6 f0 f1 f3 f4 hthn
                go_wp2_with fail
                refine ((HO4.out.below HBq.out).look (fun S h => done_any _ w1.heap.size e0 S _ h)).mono ?_
                rintro r w5 ⟨rfl, hB5⟩
                have HOX := Lib.hid ((HO4.out.below HBq.out).below hB5)
                have hdn : decide ((⟨7, xs, th, []⟩ : E).there = (⟨7, xs, th, []⟩ : E).sent.length) = true := by
                  have := HN.out.1
                  have := HTH.out
                  exact decide_eq_true (by show th = xs.length; omega)
                rw [hdn]
                clear hdn hB5 f2
                by_cases hjl : j < n2
                · have d8 : (j : Int) < (n2 : Int) := by omega
                  have hRO := Kd.reads_of_C (enc := Value.int .u8) (d := (0 : Int)) (h1 := fun _ => rfl) (Kd.C_below HO.out (HB1.out.trans (HOX.out.hB.mono HB1.out.size)))
                  obtain ⟨ao, rfl, hco⟩ := ReadsOf.at_ hRO (j : Int) (by omega) (by omega)
                  obtain ⟨o, hoe, ho⟩ : ∃ o : Nat, rdOf (0 : Int) os (j : Int) = (o : Int) ∧ o < 256 := by
                    have hl := HN.out.2.1
                    have hm : os[j]'(by omega) ∈ os := List.getElem_mem _
                    have hw := HG2.out.2 _ hm
                    have hw2 : 0 ≤ os[j]'(by omega) ∧ os[j]'(by omega) < 256 := by
                      simp [Lit.wf, IntKind.min, IntKind.max, IntKind.bits, IntKind.signed] at hw
                      omega
                    refine ⟨(os[j]'(by omega)).toNat, ?_, by omega⟩
                    unfold rdOf
                    rw [Int.toNat_natCast, List.getD_eq_getElem?_getD, List.getElem?_eq_getElem (by omega)]
                    show os[j] = _
                    omega
                  rw [hoe, Int.toNat_natCast] at hco
                  obtain ⟨q, hq, hqe⟩ : ∃ q : Nat, q < n + 1 ∧ q = o % (n + 1) := ⟨_, Nat.mod_lt _ (by omega), rfl⟩
                  have HQ := Lib.hid (show (o : Int) % ((n : Int) + 1) = (q : Int) by rw [hqe]; rfl)
                  have htk := HOX.out.step (fun S h => take_any _ w1.heap.size e0 S ⟨7, xs, th, []⟩ h (by show (0 : Nat) ≤ _; omega) (by have := HN.out.1; show xs.length ≤ _; omega) ⟨7, (q : Int), false, 0, []⟩ none 0 0 rfl (Kd.C_nil _ _) (Nat.le_refl _) (by omega))
                  have hto : takeOk ⟨7, xs, th, []⟩ ⟨7, (q : Int), false, 0, []⟩ = true := by
                    unfold takeOk okF okEp okN
                    have := HN.out.1
                    simp
                    omega
                  have hte : takeE ⟨7, xs, th, []⟩ ⟨7, (q : Int), false, 0, []⟩ = ⟨7, xs, max th q, []⟩ := by
                    unfold takeE
                    rw [if_pos hto]
                    simp
                  rw [hto, hte] at htk
                  have HTK := Lib.hid htk
                  clear htk hto hte hRO hoe hqe
                  go_upto_region 28 with (fail)
                  rw [HQ.out]
                  go_wp2_with fail
                  refine HTK.out.mono ?_
                  rintro r w6 ⟨rfl, hO6, _⟩
                  have HO6 := Lib.hid hO6
                  clear hO6 HTK
                  go_wp2_with fail
                  refine ⟨⟨max th q, j + 1, by go_num, by go_num, by omega, by omega, HO6.out⟩, by simp [intOf]; omega⟩
                · have d8 : ¬ (j : Int) < (n2 : Int) := by omega
                  go_wp2_with fail
                  refine ⟨⟨th, j + 1, rfl, by go_num, by omega, by omega, HOX.out⟩, by simp [intOf]; omega⟩
              · have d7 : ((nn : Int) == 0) = false := by rw [beq_eq_false_iff_ne]; omega
                have HOX := Lib.hid (HO4.out.below HBq.out)
                by_cases hjl : j < n2
                · have d8 : (j : Int) < (n2 : Int) := by omega
                  have hRO := Kd.reads_of_C (enc := Value.int .u8) (d := (0 : Int)) (h1 := fun _ => rfl) (Kd.C_below HO.out (HB1.out.trans (HOX.out.hB.mono HB1.out.size)))
                  obtain ⟨ao, rfl, hco⟩ := ReadsOf.at_ hRO (j : Int) (by omega) (by omega)
                  obtain ⟨o, hoe, ho⟩ : ∃ o : Nat, rdOf (0 : Int) os (j : Int) = (o : Int) ∧ o < 256 := by
                    have hl := HN.out.2.1
                    have hm : os[j]'(by omega) ∈ os := List.getElem_mem _
                    have hw := HG2.out.2 _ hm
                    have hw2 : 0 ≤ os[j]'(by omega) ∧ os[j]'(by omega) < 256 := by
                      simp [Lit.wf, IntKind.min, IntKind.max, IntKind.bits, IntKind.signed] at hw
                      omega
                    refine ⟨(os[j]'(by omega)).toNat, ?_, by omega⟩
                    unfold rdOf
                    rw [Int.toNat_natCast, List.getD_eq_getElem?_getD, List.getElem?_eq_getElem (by omega)]
                    show os[j] = _
                    omega
                  rw [hoe, Int.toNat_natCast] at hco
                  obtain ⟨q, hq, hqe⟩ : ∃ q : Nat, q < n + 1 ∧ q = o % (n + 1) := ⟨_, Nat.mod_lt _ (by omega), rfl⟩
                  have HQ := Lib.hid (show (o : Int) % ((n : Int) + 1) = (q : Int) by rw [hqe]; rfl)
                  have htk := HOX.out.step (fun S h => take_any _ w1.heap.size e0 S ⟨7, xs, th, []⟩ h (by show (0 : Nat) ≤ _; omega) (by have := HN.out.1; show xs.length ≤ _; omega) ⟨7, (q : Int), false, 0, []⟩ none 0 0 rfl (Kd.C_nil _ _) (Nat.le_refl _) (by omega))
                  have hto : takeOk ⟨7, xs, th, []⟩ ⟨7, (q : Int), false, 0, []⟩ = true := by
                    unfold takeOk okF okEp okN
                    have := HN.out.1
                    simp
                    omega
                  have hte : takeE ⟨7, xs, th, []⟩ ⟨7, (q : Int), false, 0, []⟩ = ⟨7, xs, max th q, []⟩ := by
                    unfold takeE
                    rw [if_pos hto]
                    simp
                  rw [hto, hte] at htk
                  have HTK := Lib.hid htk
                  clear htk hto hte hRO hoe hqe
                  go_upto_region 28 with (fail)
                  rw [HQ.out]
                  go_wp2_with fail
                  refine HTK.out.mono ?_
                  rintro r w6 ⟨rfl, hO6, _⟩
                  have HO6 := Lib.hid hO6
                  clear hO6 HTK
                  go_wp2_with fail
                  refine ⟨⟨max th q, j + 1, by go_num, by go_num, by omega, by omega, HO6.out⟩, by simp [intOf]; omega⟩
                · have d8 : ¬ (j : Int) < (n2 : Int) := by omega
                  go_wp2_with fail
                  refine ⟨⟨th, j + 1, rfl, by go_num, by omega, by omega, HOX.out⟩, by simp [intOf]; omega⟩
        · have d4 : ¬ (j : Int) ≤ (n2 : Int) := by omega
          go_wp2_with fail
          go_ret
          exact ⟨rfl, HB1.out.trans (HO3.out.hB.mono HB1.out.size)⟩
end Go.Proofs.YthfgkkpibkkiaaaDoor
