/- Moves of a pair: their bounds, their memory; begins, greatMoves. -/
import Derived.Test.YthfgkkpibkkiaaaDoorSessMv
set_option linter.unusedVariables false
set_option linter.unusedSimpArgs false
namespace Go.Proofs.YthfgkkpibkkiaaaDoor
attribute [local go_sem] Go.Proofs.YthfgkkpibkkiaaaDoorW.PrintMore.min_two Go.Proofs.YthfgkkpibkkiaaaDoorW.PrintMore.min2_int
open Go.RowKit Go.Proofs.YthfgkkpibkkiaaaDoorW.PrintWords Go.Proofs.YthfgkkpibkkiaaaDoorW.PrintLast Go.Proofs.YthfgkkpibkkiaaaDoor.PSessionPlays

structure Small (p : Pr) : Prop where
  a : p.a.sent.length ≤ 64
  b : p.b.sent.length ≤ 64
  az : ∀ l ∈ p.a.sent, l.length ≤ 32768
  bz : ∀ l ∈ p.b.sent, l.length ≤ 32768
  l : p.l.length ≤ 200
  lz : ∀ x ∈ p.l, x.2.f4.length ≤ 32768
theorem Small.new (ep : Int) : Small ⟨⟨ep, [], 0, []⟩, ⟨ep, [], 0, []⟩, [], [], []⟩ := ⟨by simp, by simp, by simp, by simp, by simp, by simp⟩
theorem send_small {e : E} {d : List Int} (h1 : e.sent.length ≤ 64) (h2 : ∀ l ∈ e.sent, l.length ≤ 32768) (hok : sendOk e d = true) : (sendE e d).sent.length ≤ 64 ∧ ∀ l ∈ (sendE e d).sent, l.length ≤ 32768 := by
  rw [send_sent hok]
  have hok' := of_decide_eq_true hok
  have h3 := hok'.1
  have h4 := hok'.2
  refine ⟨?_, fun l hl => ?_⟩
  · show (e.sent ++ [d]).length ≤ 64
    rw [List.length_append, List.length_singleton]
    omega
  · have hl' : l ∈ e.sent ++ [d] := hl
    rw [List.mem_append, List.mem_singleton] at hl'
    rcases hl' with hl' | rfl
    · exact h2 l hl'
    · exact h3
theorem tick_small_f {e : E} (h2 : ∀ l ∈ e.sent, l.length ≤ 32768) : ∀ x ∈ tickE e, x.f4.length ≤ 32768 := by
  intro x hx
  unfold tickE at hx
  split at hx
  · rw [List.mem_iff_getElem?] at hx
    obtain ⟨i, hi⟩ := hx
    rw [List.getElem?_mapIdx] at hi
    cases hw : (windowOf e)[i]? with
    | none => rw [hw] at hi; cases hi
    | some l =>
      rw [hw] at hi
      obtain rfl := Option.some.inj hi
      have hm := List.mem_of_getElem? hw
      unfold windowOf at hm
      exact h2 l (List.mem_of_mem_drop (List.mem_of_mem_take hm))
  · rw [List.mem_singleton] at hx
    subst hx
    simp
theorem Small.step {p : Pr} (h : Small p) (m : Mv) : Small (pstep p m) := by
  unfold pstep
  split
  · split
    · split
      · rename_i hok
        have hs := send_small h.a h.az hok
        exact ⟨hs.1, h.b, hs.2, h.bz, h.l, h.lz⟩
      · exact h
    · split
      · rename_i hok
        have hs := send_small h.b h.bz hok
        exact ⟨h.a, hs.1, h.az, hs.2, h.l, h.lz⟩
      · exact h
  · split
    · refine ⟨h.a, h.b, h.az, h.bz, ?_, fun x hx => ?_⟩
      · show (addL p.l _ _).length ≤ 200
        unfold addL
        rw [List.length_append, List.length_map, List.length_take]
        have := h.l
        omega
      · have hx' : x ∈ addL p.l (!m.who) (tickE (if m.who = true then p.a else p.b)) := hx
        unfold addL at hx'
        rw [List.mem_append] at hx'
        rcases hx' with hx' | hx'
        · exact h.lz x hx'
        · rw [List.mem_map] at hx'
          obtain ⟨y, hy, rfl⟩ := hx'
          have hy2 := List.mem_of_mem_take hy
          refine tick_small_f ?_ y hy2
          split
          · exact h.az
          · exact h.bz
    · split
      · exact h
      · split
        · exact h
        · rename_i x hx
          have hl1 : (outL p.l m (m.at_ % (p.l.length : Int)).toNat).length ≤ 200 := by
            unfold outL
            split
            · exact h.l
            · rw [List.length_eraseIdx]
              have := h.l
              split <;> omega
          have hl2 : ∀ y ∈ outL p.l m (m.at_ % (p.l.length : Int)).toNat, y.2.f4.length ≤ 32768 := by
            intro y hy
            unfold outL at hy
            split at hy
            · exact h.lz y hy
            · exact h.lz y (List.mem_of_mem_eraseIdx hy)
          unfold moved
          split
          · exact ⟨h.a, h.b, h.az, h.bz, hl1, hl2⟩
          · split
            · exact ⟨by show (takeE p.a x.2).sent.length ≤ 64; rw [take_sent]; exact h.a, h.b, by show ∀ l ∈ (takeE p.a x.2).sent, _; rw [take_sent]; exact h.az, h.bz, hl1, hl2⟩
            · exact ⟨h.a, by show (takeE p.b x.2).sent.length ≤ 64; rw [take_sent]; exact h.b, h.az, by show ∀ l ∈ (takeE p.b x.2).sent, _; rw [take_sent]; exact h.bz, hl1, hl2⟩
theorem caps_of {ep : Int} {p : Pr} (hi : Inv ep p) (h : Small p) : Caps p := by
  have h1 := h.a
  have h2 := h.b
  have h3 := hi.ca.length_le
  have h4 := hi.cb.length_le
  have h5 := hi.ta
  have h6 := hi.tb
  exact ⟨h1, h2, by omega, by omega, by omega, by omega, fun l hl => by have := h.az l hl; omega, fun l hl => by have := h.bz l hl; omega, h.l, fun x hx => by have := h.lz x hx; omega, by rw [← hi.sa]; omega, by rw [← hi.sb]; omega⟩
theorem step_any (w1 w : World) (pb g1 g2 : Nat) (p : Pr) (h : PairAt w1 w pb g1 g2 p) (hc : Caps p) (m : Mv) (D : Option Addr) (dn dc : Nat) (hv : View w1 (D, dn, dc) m.data) (hdn : dn ≤ 140737488351232) :
    Calls Tryd.prog 30 #[.pointer (some ⟨pb, 0, none⟩), .agg #[.int .i64 m.what, .bool m.who, .int .i64 m.at_, .slice D dn dc]] w fun r w' => StepEnd w1 pb g1 g2 (pstep p m) r w' := by
  by_cases h1 : m.what < 2
  · exact step_send w1 w pb g1 g2 p h hc m D dn dc hv hdn h1
  · by_cases h2 : m.what = 2
    · exact step_tick w1 w pb g1 g2 p h hc m D dn dc hv hdn h2
    · by_cases h3 : p.l.length = 0 ∨ m.at_ < 0
      · exact step_none w1 w pb g1 g2 p h hc m D dn dc hv hdn h1 h2 h3
      · exact step_move w1 w pb g1 g2 p h hc m D dn dc hv hdn h1 h2 (by omega) (by omega)
/-- Two new ends, in a new pair. -/
theorem pair_new {w1 w2 w3 : World} {g1 g2 : Nat} {ep : Int} (h1 : EndAt 77 w2 w1.heap.size g1 (fun k => k = g1) ⟨ep, [], 0, []⟩) (hB1 : Below w1.heap.size w1 w2) (h2 : EndAt 77 w3 w2.heap.size g2 (fun k => k = g2) ⟨ep, [], 0, []⟩) (hB2 : Below w2.heap.size w2 w3) :
    PairAt w1 (w3.alloc (.cells #[.pointer (some ⟨g1, 0, none⟩), .pointer (some ⟨g2, 0, none⟩), .slice none 0 0, .slice none 0 0, .slice none 0 0] 55)) w3.heap.size g1 g2 ⟨⟨ep, [], 0, []⟩, ⟨ep, [], 0, []⟩, [], [], []⟩ := by
  have ht := (OneF.made h1 hB1).two h2 hB2
  have hb := ht.hB.size
  refine ⟨_, ht.keep ((Below.refl w3.heap.size w3).alloc (Nat.le_refl _) _), .slice none 0 0, .slice none 0 0, .slice none 0 0, fun _ => False, fun _ => False, fun _ => False, [], [], heap_alloc_new w3 _, .inr ⟨Nat.le_refl _, by simp⟩, ?_, Kd.R_nil _ _ _ _ _, Kd.R_nil _ _ _ _ _, Kd.R_nil _ _ _ _ _, Views.nil _, Views.nil _, fun _ h => h.elim, fun _ h => h.elim, fun _ h => h.elim⟩
  intro k hk
  rcases hk with hk | hk
  · exact hk.elim
  · exact ⟨by omega, hk.2⟩
theorem PairAt.rows {w1 w : World} {pb g1 g2 : Nat} {p : Pr} (h : PairAt w1 w pb g1 g2 p) : w.cell? ⟨pb, 0, none⟩ = some (.pointer (some ⟨g1, 0, none⟩)) ∧ w.cell? ⟨pb, 1, none⟩ = some (.pointer (some ⟨g2, 0, none⟩)) ∧ ∃ As cs At ct, w.cell? ⟨pb, 3, none⟩ = some (.slice As p.s.length cs) ∧ w.cell? ⟨pb, 4, none⟩ = some (.slice At p.t.length ct) ∧ p.s.length ≤ cs ∧ p.t.length ≤ ct ∧ Kd.C kT w As p.s.length p.s ∧ Kd.C kT w At p.t.length p.t := by
  obtain ⟨F, hT, vl, vs, vt, Fl, Fs, Ft, us, ut, hP⟩ := h
  obtain ⟨p0, p1, p2, p3, p4⟩ := hP.cells
  obtain ⟨As, cs, rfl, hcs, hCs⟩ := Kd.R_reads hP.rs
  obtain ⟨At, ct, rfl, hct, hCt⟩ := Kd.R_reads hP.rt
  rw [hP.ws.1] at p3 hcs hCs
  rw [hP.wt.1] at p4 hct hCt
  exact ⟨p0, p1, As, cs, At, ct, p3, p4, hcs, hct, views_C hT.hB hCs hP.ws, views_C hT.hB hCt hP.wt⟩
theorem PairAt.a {w1 w : World} {pb g1 g2 : Nat} {p : Pr} (h : PairAt w1 w pb g1 g2 p) {P : Program} {f : FuncId} {args : Array Value} {Q : Ending → World → Prop} (hc : ∀ S, EndAt 77 w w1.heap.size g1 S p.a → Calls P f args w Q) : Calls P f args w Q := by
  obtain ⟨F, hT, _⟩ := h
  exact hT.look hc
theorem PairAt.b {w1 w : World} {pb g1 g2 : Nat} {p : Pr} (h : PairAt w1 w pb g1 g2 p) {P : Program} {f : FuncId} {args : Array Value} {Q : Ending → World → Prop} (hc : ∀ S, EndAt 77 w w1.heap.size g2 S p.b → Calls P f args w Q) : Calls P f args w Q := by
  obtain ⟨F, hT, _⟩ := h
  exact hT.swap.look hc
set_option maxRecDepth 100000 in
theorem begins_any (xs ys : List (List Int)) (hp : xs <+: ys) (A B : Option Addr) (n1 c1 n2 c2 : Nat) (h1 : xs.length = n1) (h2 : ys.length = n2) (hl : n2 ≤ 1000000) (w : World) (hA : Kd.C kT w A n1 xs) (g1 : n1 ≤ c1) (hB : Kd.C kT w B n2 ys) (g2 : n2 ≤ c2) :
    Calls Tryd.prog 31 #[.slice A n1 c1, .slice B n2 c2] w fun r w' => r = .returned (.bool true) ∧ Below w.heap.size w w' := by
  have hle : n1 ≤ n2 := by have := hp.length_le; omega
  have hC2 : Kd.C kT w B n1 xs := by
    have hB' : Kd.C kT w B ys.length ys := by rw [h2]; exact hB
    have h := Kd.C_take (m := xs.length) hB' hp.length_le
    rw [← List.prefix_iff_eq_take.1 hp, h1] at h
    exact h
  have HS := Lib.hid (stexts_any xs n1 h1 (by omega) A B c1 c2 w hA g1 hC2 (by omega))
  have d1 : (n1 : Int) ≤ (n2 : Int) := by omega
  have d2 : n1 ≤ c2 := by omega
  have d3 : (n1 : Int) ≤ (c2 : Int) := by omega
  have d4 : (0 : Int) ≤ (n1 : Int) := by omega
  clear hp hA hB hC2 h1 h2
  go_enter Tryd.func31, Tryd.ntmps31
  go_wp2_with fail
  refine HS.out.mono ?_
  rintro r w1 ⟨rfl, hB1⟩
  have HB := Lib.hid hB1
  clear hB1 HS
  go_wp2_with fail
  go_ret
  exact ⟨rfl, HB.out⟩
abbrev kMv : Kd Mv := Kd.iso (Kd.pair (Kd.int .i64) (Kd.pair Kd.bool (Kd.pair (Kd.int .i64) (Kd.slice 5 (Kd.int .u8))))) (fun m : Mv => (m.what, m.who, m.at_, m.data))
abbrev kMvs : Kd (List Mv) := Kd.slice 59 kMv
def goodMv (m : Mv) : Prop := (Lit.int .i64 m.what).wf = true ∧ True ∧ (Lit.int .i64 m.at_).wf = true ∧ goodB m.data
def goodMvs (l : List Mv) : Prop := l.length * 48 ≤ 140737488351232 ∧ ∀ x ∈ l, goodMv x
set_option maxRecDepth 100000 in
theorem opens_move : Opens Tryd.prog 59 kMv goodMv :=
  Opens.iso (Opens.struct Tryd.underlying59 (by kernel_rfl) (OpensF.cons rfl (by kernel_rfl) (Opens.int Tryd.underlying3) (OpensF.cons rfl (by kernel_rfl) (Opens.bool Tryd.underlying4) (OpensF.cons rfl (by kernel_rfl) (Opens.int Tryd.underlying3) (OpensF.one rfl (by kernel_rfl) opens_bytes)))))
    (fun m : Mv => (m.what, m.who, m.at_, m.data)) (fun p => ⟨p.1, p.2.1, p.2.2.1, p.2.2.2⟩) (fun _ => rfl)
set_option maxRecDepth 100000 in
theorem opens_moves : Opens Tryd.prog 51 kMvs goodMvs :=
  Opens.slice Tryd.underlying51 (by kernel_rfl) (B := 48) (by kernel_rfl) opens_move
theorem moves_open {w : World} {l : List Mv} {A : Option Addr} {n c : Nat} (h : kMvs.K w l [.slice A n c]) : n = l.length ∧ n ≤ c ∧ Kd.C kMv w A n l := by
  obtain ⟨A', c', e, l', hr⟩ := h
  injection e with e _
  injection e with a b c
  subst a b c
  exact ⟨rfl, l', hr⟩
theorem at_mv {w : World} {A : Option Addr} {n : Nat} {xs : List Mv} (h : Kd.C kMv w A n xs) (k : Nat) (hk : k < n) (m : Mv) (hx : xs[k]? = some m) : ∃ ad A4 c4, A = some ad ∧ w.cell? (ad.add (k * 4)) = some (.int .i64 m.what) ∧ w.cell? ⟨(ad.add (k * 4)).block, (ad.add (k * 4)).off + 1, none⟩ = some (.bool m.who) ∧ w.cell? ⟨(ad.add (k * 4)).block, (ad.add (k * 4)).off + 2, none⟩ = some (.int .i64 m.at_) ∧ w.cell? ⟨(ad.add (k * 4)).block, (ad.add (k * 4)).off + 3, none⟩ = some (.slice A4 m.data.length c4) ∧ View w (A4, m.data.length, c4) m.data := by
  obtain ⟨ad, c, e, _, hK, hc0⟩ := Kd.C_get h (⟨0, false, 0, []⟩ : Mv) (k : Int) (by omega) (by omega)
  rw [Int.toNat_natCast] at hK hc0
  rw [show xs.getD k (⟨0, false, 0, []⟩ : Mv) = m from by rw [List.getD_eq_getElem?_getD, hx]; rfl] at hK
  have hc : ∀ j u, c[j]? = some u → w.cell? (ad.add (k * 4 + j)) = some u := hc0
  obtain ⟨c1, c2, rfl, h1, ⟨c3, c4, rfl, h3, ⟨c5, c6, rfl, h5, h6⟩⟩⟩ := hK
  have h1' : c1 = [.int .i64 m.what] := h1
  have h3' : c3 = [.bool m.who] := h3
  have h5' : c5 = [.int .i64 m.at_] := h5
  subst h1' h3' h5'
  obtain ⟨A4, cc4, rfl, l4, g4⟩ := h6
  exact ⟨ad, A4, cc4, e, hc 0 _ rfl, by rw [← add_field _ _ 1 (by omega)]; exact hc 1 _ rfl, by rw [← add_field _ _ 2 (by omega)]; exact hc 2 _ rfl, by rw [← add_field _ _ 3 (by omega)]; exact hc 3 _ rfl, rfl, l4, g4⟩
def AnyB (r : Ending) : Prop := ∃ b : Bool, r = .returned (.bool b)
set_option maxRecDepth 100000 in
theorem greatMoves_any (A : Option Addr) (n c : Nat) (l : List Mv) (w : World) (hn : n = l.length) (hnb : n ≤ 140737488351232) (hC : Kd.C kMv w A n l) :
    Calls Tryd.prog 29 #[.slice A n c] w fun r w' => AnyB r ∧ Below w.heap.size w w' := by
  have HX := Lib.hid hC
  have HN := Lib.hid hn
  have HB := Lib.hid (Below.refl w.heap.size w)
  clear hC hn
  go_enter Tryd.func29, Tryd.ntmps29
  go_wp2_with fail
  go_loopw [3, 4] (fun vn vi wr => ∃ (N i : Nat), vn = .int .i64 (N : Int) ∧ vi = .int .i64 (i : Int) ∧ N ≤ n + 6000 ∧ i ≤ n ∧ Below w.heap.size w wr) (fun _ vi _ => n - (intOf vi).toNat)
  case atStart => exact ⟨n, 0, rfl, rfl, by omega, by omega, HB.out⟩
  case round =>
    obtain ⟨N, i, rfl, rfl, hN, hi, hB⟩ := hrel
    have HD := Lib.hid hB
    clear hB
    by_cases hlo : i < n ∧ N < 3000
    · obtain ⟨hin, hgr⟩ := hlo
      have d1 : (i : Int) < (n : Int) := by omega
      have d2 : (N : Int) < (3000 : Int) := by omega
      obtain ⟨m, hm⟩ : ∃ x, l[i]? = some x := ⟨_, List.getElem?_eq_getElem (by have := HN.out; omega)⟩
      obtain ⟨ax, B, d, rfl, x0, x1, x2, x3, x4⟩ := at_mv (Kd.C_below HX.out HD.out) i hin m hm
      obtain ⟨q, hq⟩ : ∃ q, q = m.data.length := ⟨_, rfl⟩
      rw [← hq] at x3
      obtain ⟨mm, hmm, hme⟩ : ∃ k : Nat, k ≤ 3000 ∧ (if (3000 : Int) < (q : Int) then (3000 : Int) else (q : Int)) = (k : Int) := ⟨min q 3000, by omega, by split <;> omega⟩
      clear x0 x1 x2 x4 hm hq
      go_wp2_with fail
      refine ⟨⟨N + mm, i + 1, by go_num, by go_num, by omega, by omega, HD.out⟩, by simp [intOf]; omega⟩
    · have d1 : (i : Int) < (n : Int) → ¬ (N : Int) < (3000 : Int) := by omega
      by_cases hin : i < n
      · have d0 : (i : Int) < (n : Int) := by omega
        have d2 := d1 d0
        clear d1
        have d3 : (3000 : Int) ≤ (N : Int) := by omega
        go_wp2_with fail
        go_ret
        exact ⟨⟨true, rfl⟩, HD.out⟩
      · have d0 : ¬ (i : Int) < (n : Int) := by omega
        clear d1
        by_cases h3 : 3000 ≤ N
        · have d3 : (3000 : Int) ≤ (N : Int) := by omega
          go_wp2_with fail
          go_ret
          exact ⟨⟨true, rfl⟩, HD.out⟩
        · have d3 : ¬ (3000 : Int) ≤ (N : Int) := by omega
          go_wp2_with fail
          go_ret
          exact ⟨⟨_, rfl⟩, HD.out⟩
end Go.Proofs.YthfgkkpibkkiaaaDoor
