/- named.Right: its walk. -/
import Derived.Test.YtijfedahhgcfpaaDoorNg
set_option linter.unusedVariables false
set_option linter.unusedSimpArgs false
namespace Go.Proofs.YtijfedahhgcfpaaDoor
open Go.RowKit Go.Proofs.YtijfedahhgcfpaaDoorW.PrintWords Go.Proofs.YtijfedahhgcfpaaDoorW.PrintLast

abbrev kPrm : Kd Prm := PNamedBack.k39
/-- A change in memory. -/
structure PrmRow (w : World) (x : Prm) (A5 : Option Addr) (c5 : Nat) (A6 : Option Addr) (c6 : Nat) : Prop where
  l5 : x.f5.length ≤ c5
  g5 : Kd.string.C w A5 x.f5.length x.f5
  l6 : x.f6.length ≤ c6
  g6 : Kd.string.C w A6 x.f6.length x.f6
theorem PrmRow.below {w w' : World} {x : Prm} {A5 A6 : Option Addr} {c5 c6 : Nat} (h : PrmRow w x A5 c5 A6 c6) (hB : Below w.heap.size w w') : PrmRow w' x A5 c5 A6 c6 := ⟨h.l5, Kd.C_below h.g5 hB, h.l6, Kd.C_below h.g6 hB⟩
theorem at_prm {w : World} {A : Option Addr} {n : Nat} {xs : List Prm} (h : Kd.C kPrm w A n xs) (k : Nat) (hk : k < n) (x : Prm) (hx : xs[k]? = some x) : ∃ ad A5 c5 A6 c6, A = some ad ∧ w.cell? (ad.add (k * 7)) = some (.int .i64 x.f0) ∧
    w.cell? ⟨(ad.add (k * 7)).block, (ad.add (k * 7)).off + 1, none⟩ = some (.string x.f1) ∧ w.cell? ⟨(ad.add (k * 7)).block, (ad.add (k * 7)).off + 2, none⟩ = some (.string x.f2) ∧ w.cell? ⟨(ad.add (k * 7)).block, (ad.add (k * 7)).off + 3, none⟩ = some (.string x.f3) ∧
    w.cell? ⟨(ad.add (k * 7)).block, (ad.add (k * 7)).off + 4, none⟩ = some (.int .i64 x.f4) ∧ w.cell? ⟨(ad.add (k * 7)).block, (ad.add (k * 7)).off + 5, none⟩ = some (.slice A5 x.f5.length c5) ∧ w.cell? ⟨(ad.add (k * 7)).block, (ad.add (k * 7)).off + 6, none⟩ = some (.slice A6 x.f6.length c6) ∧ PrmRow w x A5 c5 A6 c6 := by
  obtain ⟨ad, A5, c5, A6, c6, e, h0, h1, h2, h3, h4, h5, h6, l5, g5, l6, g6⟩ := PNamedBack.at_T39 h (k : Int) (by omega) (by omega)
  have hr : PNamedBack.rd_T39 xs (k : Int) = x := by
    unfold PNamedBack.rd_T39
    rw [Int.toNat_natCast, List.getD_eq_getElem?_getD, hx]
    rfl
  rw [hr] at h0 h1 h2 h3 h4 h5 h6 l5 g5 l6 g6
  rw [Int.toNat_natCast] at h0 h1 h2 h3 h4 h5 h6
  exact ⟨ad, A5, c5, A6, c6, e, h0, h1, h2, h3, h4, h5, h6, ⟨l5, g5, l6, g6⟩⟩
set_option maxRecDepth 100000 in
theorem pred_prim (x : Prm) (A5 A6 : Option Addr) (n5 n6 c5 c6 : Nat) (w : World) (hn5 : x.f5.length = n5) (hn6 : x.f6.length = n6) (hs : sizesOk x) (hr : PrmRow w x A5 c5 A6 c6) :
    Calls Tryd.prog 22 #[.agg #[.int .i64 x.f0, .string x.f1, .string x.f2, .string x.f3, .int .i64 x.f4, .slice A5 n5 c5, .slice A6 n6 c6]] w fun e w' => e = .returned (.bool (!primR x)) ∧ Below w.heap.size w w' := by
  obtain ⟨w1, hw1⟩ : ∃ w1, w1 = w.alloc (.cells #[.int .i64 x.f0, .string x.f1, .string x.f2, .string x.f3, .int .i64 x.f4, .slice A5 n5 c5, .slice A6 n6 c6] 39) := ⟨_, rfl⟩
  have hB1 : Below w.heap.size w w1 := by rw [hw1]; exact (Below.refl _ _).alloc (Nat.le_refl _) _
  have hb1 : w1.heap[w.heap.size]? = some (.cells #[.int .i64 x.f0, .string x.f1, .string x.f2, .string x.f3, .int .i64 x.f4, .slice A5 n5 c5, .slice A6 n6 c6] 39 (0, 0)) := by rw [hw1]; exact heap_alloc_new w _
  obtain ⟨g0, g1, g2, g3, g4, g5, g6⟩ := cells7p hb1
  have gl := blk_lt hb1
  have hc := prim_any x A5 A6 n5 n6 c5 c6 w1 hn5 hn6 hs (by rw [← hn5]; exact Kd.C_below hr.g5 hB1) (by rw [← hn6]; exact Kd.C_below hr.g6 hB1)
  obtain ⟨q, hq⟩ : ∃ q, q = primR x := ⟨_, rfl⟩
  rw [← hq] at hc ⊢
  obtain ⟨f0, f1, f2, f3, f4, f5, f6⟩ := x
  have HC := Lib.hid hc
  have HW := Lib.hid hw1
  have HB1 := Lib.hid hB1
  have hu := Tryd.underlying39
  clear hc hw1 hB1 hb1 hq hr hs hn5 hn6
  go_enter Tryd.func22, Tryd.ntmps22
  go_wp2_with fail
  rw [← HW.out]
  go_wp2_with fail
  refine HC.out.mono ?_
  rintro e w2 ⟨rfl, hB2⟩
  have HB2 := Lib.hid (HB1.out.trans (hB2.mono HB1.out.size))
  clear hB2
  go_wp2_with fail
  go_ret
  exact ⟨rfl, HB2.out⟩
def AnyPrm (xs : List Prm) (i : Int) : Prop := (0 ≤ i) = (xs.all primR = false)
theorem enters_rp : ∀ args w, (callFunc 22 args).run Tryd.prog w = .ok (.enter 22 args) w := enters_of Tryd.func22 (by kernel_rfl) rfl
set_option maxRecDepth 100000 in
set_option maxHeartbeats 4000000 in
theorem indexFuncP (A : Option Addr) (n c : Nat) (xs : List Prm) (hxn : xs.length = n) (w : World) (hA : Kd.C kPrm w A n xs) (hs : ∀ x ∈ xs, sizesOk x) (hn : n ≤ 1000000000) :
    Calls Tryd.prog 39 #[.slice A n c, .func (.func 22) #[] #[]] w fun e w' => ∃ i : Int, e = .returned (.int .i64 i) ∧ AnyPrm xs i ∧ Below w.heap.size w w' := by
  have HA := Lib.hid hA
  have HXN := Lib.hid hxn
  have HS := Lib.hid hs
  have eg := enters_rp
  have hu := Tryd.underlying39
  clear hA hxn hs
  go_enter Tryd.func39, Tryd.ntmps39
  go_wp2_with fail
  go_loopw [8] (fun vi wr => ∃ i : Nat, i ≤ n ∧ vi = .int .i64 (i : Int) ∧ (∀ j (hj : j < xs.length), j < i → primR (xs[j]'hj) = true) ∧ Below w.heap.size w wr) (fun vi _ => n - (Lib.intOf vi).toNat)
  case atStart => exact ⟨0, Nat.zero_le _, rfl, fun j hj h => absurd h (Nat.not_lt_zero _), Below.refl _ _⟩
  case round =>
    obtain ⟨i, hin0, rfl, hj, hB⟩ := hrel
    have HJ := Lib.hid (And.intro hj hB)
    clear hj hB
    by_cases hin : i < n
    · have hin1 : (i : Int) < (n : Int) := by omega
      have hlt : i < xs.length := by rw [HXN.out]; exact hin
      obtain ⟨x, hx⟩ : ∃ x, xs[i]? = some x := ⟨_, List.getElem?_eq_getElem hlt⟩
      have hxe : xs[i]'hlt = x := by
        have := List.getElem?_eq_getElem hlt
        rw [hx] at this
        exact (Option.some.inj this).symm
      obtain ⟨ad, A5, c5, A6, c6, e, z0, z1, z2, z3, z4, z5, z6, hrow⟩ := at_prm (Kd.C_below HA.out HJ.out.2) i hin x hx
      subst e
      obtain ⟨m5, hm5⟩ : ∃ m, x.f5.length = m := ⟨_, rfl⟩
      obtain ⟨m6, hm6⟩ : ∃ m, x.f6.length = m := ⟨_, rfl⟩
      have hp := pred_prim x A5 A6 m5 m6 c5 c6 wr hm5 hm6 (HS.out x (List.mem_of_getElem? hx)) hrow
      rw [hm5] at z5
      rw [hm6] at z6
      obtain ⟨q, hq⟩ : ∃ q, q = primR x := ⟨_, rfl⟩
      rw [← hq] at hp
      have HP := Lib.hid hp
      have HQ := Lib.hid (And.intro hq hxe)
      clear hp hq hxe hx hrow hm5 hm6
      obtain ⟨f0, f1, f2, f3, f4, f5, f6⟩ := x
      go_wp2_with fail
      refine HP.out.mono ?_
      rintro e w2 ⟨rfl, hB2⟩
      have HB2 := Lib.hid (HJ.out.2.trans (hB2.mono HJ.out.2.size))
      clear hB2
      cases q with
      | true =>
        go_wp2_with fail
        refine ⟨⟨i + 1, by omega, by simp, fun j hj h => ?_, HB2.out⟩, by simp [Lib.intOf]; omega⟩
        by_cases hji : j = i
        · subst hji
          rw [HQ.out.2]
          exact HQ.out.1.symm
        · exact HJ.out.1 j hj (by omega)
      | false =>
        go_wp2_with fail
        go_ret
        refine ⟨_, rfl, ?_, HB2.out⟩
        unfold AnyPrm
        rw [eq_iff_iff]
        refine ⟨fun _ => ?_, fun _ => by omega⟩
        rw [List.all_eq_false]
        exact ⟨_, List.getElem_mem hlt, by rw [HQ.out.2, ← HQ.out.1]; simp⟩
    · have hin1 : ¬ (i : Int) < (n : Int) := by omega
      have HIN := Lib.hid (show i = n by omega)
      go_wp2_with fail
      go_ret
      refine ⟨_, rfl, ?_, HJ.out.2⟩
      unfold AnyPrm
      rw [eq_iff_iff]
      refine ⟨fun h => by omega, fun h => ?_⟩
      rw [List.all_eq_false] at h
      obtain ⟨x, hx, hb⟩ := h
      obtain ⟨j, hj, rfl⟩ := List.getElem_of_mem hx
      exact absurd (HJ.out.1 j hj (by have := HIN.out; have := HXN.out; omega)) hb
set_option maxRecDepth 100000 in
theorem containsP (A : Option Addr) (n c : Nat) (xs : List Prm) (hxn : xs.length = n) (w : World) (hA : Kd.C kPrm w A n xs) (hs : ∀ x ∈ xs, sizesOk x) (hn : n ≤ 1000000000) :
    Calls Tryd.prog 21 #[.slice A n c, .func (.func 22) #[] #[]] w fun e w' => e = .returned (.bool (!xs.all primR)) ∧ Below w.heap.size w w' := by
  have HC := Lib.hid (indexFuncP A n c xs hxn w hA hs hn)
  clear hA hxn hs
  go_enter Tryd.func21, Tryd.ntmps21
  go_wp2_with fail
  refine HC.out.mono ?_
  rintro e w' ⟨i, rfl, hi, hB⟩
  have HI := Lib.hid (And.intro hi hB)
  clear hi hB
  go_wp2_with fail
  go_ret
  refine ⟨show Ending.returned (Value.bool (decide (i ≥ 0))) = _ from ?_, HI.out.2⟩
  have h := HI.out.1
  unfold AnyPrm at h
  rw [show decide (i ≥ 0) = !xs.all primR from by
    rw [Bool.eq_iff_iff, decide_eq_true_iff]
    show (0 ≤ i) ↔ _
    rw [h]
    simp]
end Go.Proofs.YtijfedahhgcfpaaDoor
/- named.Right: its walk. -/
set_option linter.unusedVariables false
set_option linter.unusedSimpArgs false
namespace Go.Proofs.YtijfedahhgcfpaaDoor
open Go.RowKit Go.Proofs.YtijfedahhgcfpaaDoorW.PrintWords Go.Proofs.YtijfedahhgcfpaaDoorW.PrintLast

theorem cells3p {W : World} {g : Nat} {a b c : Value} {t : TypeId} (k : W.heap[g]? = some (.cells #[a, b, c] t (0, 0))) : W.cell? ⟨g, 0, none⟩ = some a ∧ W.cell? ⟨g, 1, none⟩ = some b ∧ W.cell? ⟨g, 2, none⟩ = some c :=
  ⟨by simpa using blk_cell k 0, by simpa using blk_cell k 1, by simpa using blk_cell k 2⟩
theorem at_str {w : World} {A : Option Addr} {n : Nat} {xs : List ByteArray} (h : Kd.string.C w A n xs) (i : Nat) (hi : i < n) : ∃ ad, A = some ad ∧ w.cell? (ad.add i) = some (.string (xs.getD i ⟨#[]⟩)) := by
  obtain ⟨ad, e, hc⟩ := Kd.at_string h (i : Int) (by omega) (by omega)
  rw [Int.toNat_natCast] at hc
  refine ⟨ad, e, ?_⟩
  rw [hc]
  unfold rdOf
  rw [Int.toNat_natCast]
  rfl
set_option maxRecDepth 100000 in
set_option maxHeartbeats 8000000 in
theorem nright_any (p : Pat) (Ad Ab : Option Addr) (nd nb cd cb : Nat) (w : World) (hnd : p.deps.length = nd) (hnb : p.body.length = nb) (hD : Kd.string.C w Ad nd p.deps) (hP : Kd.C kPrm w Ab nb p.body) (hs : ∀ x ∈ p.body, sizesOk x) (bd : nd ≤ 1000000000) (bb : nb ≤ 1000000000) :
    Calls Tryd.prog 10 #[.agg #[.string p.name, .slice Ad nd cd, .slice Ab nb cb]] w fun e w' => e = .returned (.bool (patR p)) ∧ Below w.heap.size w w' := by
  obtain ⟨name, deps, body⟩ := p
  simp only at hnd hnb hD hP hs ⊢
  obtain ⟨RR, hRR⟩ : ∃ r, r = patR ⟨name, deps, body⟩ := ⟨_, rfl⟩
  obtain ⟨ln, hln⟩ : ∃ r, r = labelB name := ⟨_, rfl⟩
  have hR : RR = (ln && decide (nd ≤ 256) && decide (nb ≤ 256) && depsR name deps && body.all primR) := by
    rw [hRR, hln]
    unfold patR
    simp only
    rw [hnd, hnb]
  rw [← hRR]
  have HLN := Lib.hid (fun W => label_any name W)
  rw [← hln] at HLN
  have HR := Lib.hid hR
  have HLA := Lib.hid (fun s W => label_any s W)
  have HD := Lib.hid (And.intro hnd (And.intro hD hnb))
  have HC := Lib.hid (fun W (hB : Below w.heap.size w W) => containsP Ab nb cb body hnb W (Kd.C_below hP hB) hs bb)
  have eg := enters_rp
  clear hRR hln hR hnd hnb hD hP hs
  obtain ⟨w1, hw1⟩ : ∃ w1, w1 = w.alloc (.cells #[.string name, .slice Ad nd cd, .slice Ab nb cb] 25) := ⟨_, rfl⟩
  have hB1 : Below w.heap.size w w1 := by rw [hw1]; exact (Below.refl _ _).alloc (Nat.le_refl _) _
  have hb1 : w1.heap[w.heap.size]? = some (.cells #[.string name, .slice Ad nd cd, .slice Ab nb cb] 25 (0, 0)) := by rw [hw1]; exact heap_alloc_new w _
  obtain ⟨g0, g1, g2⟩ := cells3p hb1
  have gl := blk_lt hb1
  have HW := Lib.hid hw1
  have HB1 := Lib.hid (And.intro hB1 hb1)
  clear hw1 hB1 hb1
  go_enter Tryd.func10, Tryd.ntmps10
  go_wp2_with fail
  rw [← HW.out]
  refine (HLN.out w1).mono ?_
  rintro e w2 ⟨rfl, hB2⟩
  have HB2 := Lib.hid (And.intro (HB1.out.1.trans (hB2.mono HB1.out.1.size)) (blk_below HB1.out.2 hB2))
  clear hB2 g0 g1 g2 gl
  obtain ⟨g0, g1, g2⟩ := cells3p HB2.out.2
  have gl := blk_lt HB2.out.2
  cases ln with
  | false =>
    go_wp2_with fail
    go_ret
    exact ⟨by rw [HR.out]; rfl, HB2.out.1⟩
  | true =>
    rcases Nat.lt_or_ge 256 nd with hd | hd
    · have hdI : (256 : Int) < (nd : Int) := by omega
      go_wp2_with fail
      go_ret
      exact ⟨by rw [HR.out, decide_eq_false (show ¬ nd ≤ 256 by omega)]; rfl, HB2.out.1⟩
    have hdI : ¬ (256 : Int) < (nd : Int) := by omega
    rcases Nat.lt_or_ge 256 nb with hb | hb
    · have hbI : (256 : Int) < (nb : Int) := by omega
      go_wp2_with fail
      go_ret
      exact ⟨by rw [HR.out, decide_eq_false (show ¬ nb ≤ 256 by omega), Bool.and_false]; rfl, HB2.out.1⟩
    have hbI : ¬ (256 : Int) < (nb : Int) := by omega
    have hR2 : RR = (depsR name deps && body.all primR) := by
      rw [HR.out, decide_eq_true hd, decide_eq_true hb]
      rfl
    have HR2 := Lib.hid hR2
    clear hR2 HR
    go_wp2_with fail
    go_loopw [24] (fun vi wr => ∃ i : Nat, i ≤ nd ∧ vi = .int .i64 (i : Int) ∧ (∀ j, j < i → depOk name deps j = true) ∧ Below w.heap.size w wr ∧ wr.heap[w.heap.size]? = some (.cells #[.string name, .slice Ad nd cd, .slice Ab nb cb] 25 (0, 0))) (fun vi _ => nd - (Lib.intOf vi).toNat)
    case atStart => exact ⟨0, Nat.zero_le _, rfl, fun j h => absurd h (Nat.not_lt_zero _), HB2.out.1, HB2.out.2⟩
    case round =>
      obtain ⟨i, hin0, rfl, hj, hB, hb⟩ := hrel
      have HJ := Lib.hid (And.intro hj (And.intro hB hb))
      clear hj g0 g1 g2 gl
      obtain ⟨g0, g1, g2⟩ := cells3p hb
      have gl := blk_lt hb
      clear hb hB HB2 HB1
      by_cases hin : i < nd
      · have hin1 : (i : Int) < (nd : Int) := by omega
        obtain ⟨ad, e, hc⟩ := at_str (Kd.C_below HD.out.2.1 HJ.out.2.1) i hin
        subst e
        obtain ⟨d, hd⟩ : ∃ d, d = deps.getD i ⟨#[]⟩ := ⟨_, rfl⟩
        rw [← hd] at hc
        have hla := HLA.out d wr
        obtain ⟨ld, hld⟩ : ∃ q, q = labelB d := ⟨_, rfl⟩
        rw [← hld] at hla
        have HL := Lib.hid hla
        have HDD := Lib.hid (And.intro hd hld)
        clear hla hd hld
        go_wp2_with fail
        refine HL.out.mono ?_
        rintro e w3 ⟨rfl, hB3⟩
        have HB3 := Lib.hid (And.intro (HJ.out.2.1.trans (hB3.mono HJ.out.2.1.size)) (blk_below HJ.out.2.2 hB3))
        clear hB3 g0 g1 g2 gl hc
        obtain ⟨g0, g1, g2⟩ := cells3p HB3.out.2
        have gl := blk_lt HB3.out.2
        have hbad : depOk name deps i = false → RR = false := fun h => by
          rw [HR2.out, show depsR name deps = false by
            unfold depsR
            rw [List.all_eq_false]
            exact ⟨i, List.mem_range.2 (by rw [HD.out.1]; exact hin), by rw [h]; simp⟩]
          rfl
        have HBAD := Lib.hid hbad
        clear hbad
        have hok : depOk name deps i = (ld && !decide (d = name) && (decide (i = 0) || before (deps.getD (i - 1) ⟨#[]⟩) d)) := by unfold depOk; rw [HDD.out.2, HDD.out.1]
        have HOK := Lib.hid hok
        clear hok
        cases ld with
        | false =>
          go_wp2_with fail
          go_ret
          exact ⟨by rw [HBAD.out (by rw [HOK.out]; rfl)]; rfl, HB3.out.1⟩
        | true =>
          by_cases hdn : d = name
          · have hq : (d.toList == name.toList) = true := by rw [eqU]; exact decide_eq_true hdn
            have HDN := Lib.hid hdn
            clear hdn
            go_wp2_with fail
            go_ret
            exact ⟨by rw [HBAD.out (by rw [HOK.out, decide_eq_true HDN.out]; rfl)]; rfl, HB3.out.1⟩
          · have hq : (d.toList == name.toList) = false := by rw [eqU]; exact decide_eq_false hdn
            have HDN := Lib.hid hdn
            clear hdn
            by_cases h0 : i = 0
            · subst h0
              go_wp2_with fail
              refine ⟨⟨1, by omega, by simp, fun j hj => ?_, HB3.out.1, HB3.out.2⟩, by simp [Lib.intOf]; omega⟩
              obtain rfl : j = 0 := by omega
              rw [HOK.out, decide_eq_false HDN.out]
              rfl
            · have hi0 : (0 : Int) < (i : Int) := by omega
              obtain ⟨ad', e', hc'⟩ := at_str (Kd.C_below HD.out.2.1 HB3.out.1) (i - 1) (by omega)
              obtain rfl := Option.some.inj e'
              obtain ⟨l, hl⟩ : ∃ d, d = deps.getD (i - 1) ⟨#[]⟩ := ⟨_, rfl⟩
              rw [← hl] at hc' HOK
              have HLL := Lib.hid hl
              clear hl
              have hiI : (i : Int) - 1 = ((i - 1 : Nat) : Int) := by omega
              obtain ⟨q, hq2⟩ : ∃ q, q = before l d := ⟨_, rfl⟩
              have hqq : Op.bytesLess l.toList d.toList = q := hq2.symm
              have HQ2 := Lib.hid hq2
              have H0 := Lib.hid h0
              clear hq2
              cases q with
              | true =>
                go_wp2_with fail
                refine ⟨⟨i + 1, by omega, by simp, fun j hj => ?_, HB3.out.1, HB3.out.2⟩, by simp [Lib.intOf]; omega⟩
                by_cases hji : j = i
                · subst hji
                  rw [HOK.out, decide_eq_false HDN.out, ← HQ2.out]
                  simp
                · exact HJ.out.1 j (by omega)
              | false =>
                go_wp2_with fail
                go_ret
                exact ⟨by rw [HBAD.out (by rw [HOK.out, decide_eq_false HDN.out, ← HQ2.out, decide_eq_false H0.out]; rfl)]; rfl, HB3.out.1⟩
      · have hin1 : ¬ (i : Int) < (nd : Int) := by omega
        have hall : depsR name deps = true := by
          unfold depsR
          rw [List.all_eq_true]
          intro j hj
          exact HJ.out.1 j (by have := List.mem_range.1 hj; have := HD.out.1; omega)
        have HA := Lib.hid hall
        clear hall
        go_wp2_with fail
        refine (HC.out wr HJ.out.2.1).mono ?_
        rintro e w3 ⟨rfl, hB3⟩
        have HB3 := Lib.hid (HJ.out.2.1.trans (hB3.mono HJ.out.2.1.size))
        clear hB3
        go_wp2_with fail
        go_ret
        exact ⟨by rw [HR2.out, HA.out]; simp, HB3.out⟩
end Go.Proofs.YtijfedahhgcfpaaDoor
