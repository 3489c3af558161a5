/- The reader of patches' bytes: changes. -/
import Derived.Test.YtijfedahhgcfpaaDoorNk
import Derived.Laws.ResultCell
set_option linter.unusedVariables false
set_option linter.unusedSimpArgs false
namespace Go.Proofs.YtijfedahhgcfpaaDoor
open Go.RowKit Go.Proofs.YtijfedahhgcfpaaDoorW.PrintWords Go.Proofs.YtijfedahhgcfpaaDoorW.PrintLast

theorem infoPN : (Tryd.prog.info? 39).map (fun i => (i.zero, i.size, i.bytes)) = some (some (.agg #[.int .i64 0, .string ⟨#[]⟩, .string ⟨#[]⟩, .string ⟨#[]⟩, .int .i64 0, .slice none 0 0, .slice none 0 0]), kPrm.sz, 112) := by kernel_rfl
theorem primE_types : ∀ q, q ∈ 39 :: kPrm.E → q ≠ 58 := by decide
theorem primE_types2 : ∀ q, q ∈ 39 :: kPrm.E → q ≠ 25 := by decide
theorem enters_pm : ∀ args w, (callFunc 26 args).run Tryd.prog w = .ok (.enter 26 args) w := enters_of Tryd.func26 (by kernel_rfl) rfl
theorem R_callP {W W' : World} {base rb : Nat} {v : Value} {xs : List Prm} {s : RS} (h : Kd.R kPrm 39 W base (fun _ => True) v xs) (hr : RAt W rb s) (hg : W.grownBy W' (some rb)) : Kd.R kPrm 39 W' base (fun _ => True) v xs :=
  Kd.R_mono (Kd.R_grown (Kd.R_types h hr primE_types) hg (fun k hk e => hk.2 (by simpa using e))) (fun _ _ => trivial)
theorem R_ownlt {α : Type} {d : Kd α} {e base : Nat} {ok : Nat → Prop} {w : World} {v : Value} {xs : List α} (h : d.R e w base ok v xs) : ∀ k, v.ownBlock = some k → k < w.heap.size := fun k hk => by
  obtain ⟨_, inner, ho, _⟩ := h
  exact own_lt ho k hk
set_option maxRecDepth 100000 in
set_option maxHeartbeats 8000000 in
theorem rprims_any (rb : Nat) (st : RS) (w : World) (h : RAt w rb st) (hs : st.1.size < 4294967281) (hG : ∀ W, w.grownBy W (some rb) → Ground W) :
    Calls Tryd.prog 25 #[.pointer (some ⟨rb, 0, none⟩), .func (.func 26) #[.pointer (some ⟨rb, 0, none⟩)] #[]] w fun e w' => ∃ v, e = .returned v ∧ Kd.R kPrm 39 w' w.heap.size (fun _ => True) v (rsome rprim st).1 ∧ RAt w' rb (rsome rprim st).2 ∧ w.grownBy w' (some rb) := by
  have HN := Lib.hid (rnumber_any rb st.1 st.2 w h hs (hG w (gb_refl _ _)))
  have hz := rnum_size st
  obtain ⟨⟨n, s1⟩, hq⟩ : ∃ q, q = rnum st := ⟨_, rfl⟩
  have hlt := rnum_lt st
  have ht : rsome rprim st = rmany rprim n [] s1 := by
    unfold rsome
    rw [← hq]
  rw [ht]
  rw [← hq] at hlt hz
  rw [show rnum (st.1, st.2) = (n, s1) from hq.symm] at HN
  simp only at hlt hz HN
  have HZ := Lib.hid (And.intro hlt (And.intro hz hs))
  have HG := Lib.hid hG
  have eg := enters_pm
  clear ht hq h hs hG hlt hz
  go_enter Tryd.func25, Tryd.ntmps25
  go_wp2_with fail
  refine HN.out.mono ?_
  rintro e w1 ⟨rfl, hR, hg⟩
  have HR := Lib.hid (And.intro hR hg)
  clear hR hg
  go_wp2_with fail
  go_loopw [5, 6] (fun vo vi wr => ∃ (i : Nat) (acc : List Prm) (s : RS), i ≤ n ∧ vi = .int .i64 (i : Int) ∧ acc.length + i ≤ n ∧ Kd.R kPrm 39 wr w.heap.size (fun _ => True) vo acc ∧ RAt wr rb s ∧ w.grownBy wr (some rb) ∧ s.1.size ≤ st.1.size ∧ rmany rprim i acc s = rmany rprim n [] s1) (fun _ vi _ => (Lib.intOf vi).toNat)
  case atStart => exact ⟨n, [], s1, Nat.le_refl _, rfl, by simp, Kd.R_nil _ _ _ _ _, HR.out.1, HR.out.2, HZ.out.2.1, rfl⟩
  case round =>
    obtain ⟨i, acc, s, hin0, rfl, hai, hO, hr, hg, hss, hrm⟩ := hrel
    have HO := Lib.hid (And.intro hO (And.intro hr (And.intro hg (And.intro hss (And.intro hrm hai)))))
    obtain ⟨c0, c1, gl, fz0, fz1⟩ := hr.cells
    clear hO hr hg hss hrm hai
    obtain ⟨s, b⟩ := s
    cases i with
    | zero =>
      go_wp2_with fail
      go_ret
      have h5 := HO.out.2.2.2.2.1
      rw [rmany] at h5
      rw [← h5]
      exact ⟨_, rfl, HO.out.1, HO.out.2.1, HO.out.2.2.1⟩
    | succ i =>
      have hi1 : (0 : Int) < ((i + 1 : Nat) : Int) := by omega
      cases b with
      | true =>
        go_wp2_with fail
        go_ret
        have h5 := HO.out.2.2.2.2.1
        rw [rmany, if_pos rfl] at h5
        rw [← h5]
        exact ⟨_, rfl, HO.out.1, HO.out.2.1, HO.out.2.2.1⟩
      | false =>
        have h5 := HO.out.2.2.2.2.1
        rw [rmany, if_neg (by simp)] at h5
        have HT := Lib.hid (rprim_any rb (s, false) wr HO.out.2.1 (by have := HO.out.2.2.2.1; have := HZ.out.2.2; simp only at *; omega) (fun W hW => HG.out W (gb_trans HO.out.2.2.1 hW)))
        have hts := rprim_size (s, false)
        obtain ⟨⟨x, s2⟩, hq⟩ : ∃ q, q = rprim (s, false) := ⟨_, rfl⟩
        rw [← hq] at h5 HT hts
        simp only at h5 HT hts
        have H5 := Lib.hid (And.intro h5 hts)
        clear h5 hq hts
        go_wp2_with fail
        refine HT.out.mono ?_
        rintro e w2 ⟨v5, v6, rfl, hR5, hR6, hr2, hg2⟩
        have hM := PNamedBack.k39_mkM w2 wr.heap.size (fun _ => True) x hR5 hR6
        obtain ⟨hx8, inn, hown, hx9⟩ := HO.out.1
        have hM2 := Kd.M_new hM hown
        have HW2 := Lib.hid (And.intro hr2 (And.intro (gb_trans HO.out.2.2.1 hg2) (And.intro (R_callP HO.out.1 HO.out.2.1 hg2) (kPrm.M_lower HO.out.2.2.1.size hM2))))
        obtain ⟨A5, d5, e5⟩ := Kd.R_slice hR5
        obtain ⟨A6, d6, e6⟩ := Kd.R_slice hR6
        subst e5
        subst e6
        clear hr2 hg2 hR5 hR6 hM hM2 hx8 hx9 hown c0 c1 gl fz0 fz1 inn
        have hgs := HW2.out.2.1.size
        obtain ⟨m5, hm5⟩ : ∃ m, x.f5.length = m := ⟨_, rfl⟩
        obtain ⟨m6, hm6⟩ : ∃ m, x.f6.length = m := ⟨_, rfl⟩
        rw [hm5, hm6] at HW2
        rw [hm5, hm6]
        clear hm5 hm6
        go_wp2_with (at_builtin; go_loud (refine Kd.R_append (w0 := w2) (W := w2) kPrm w.heap.size rfl _ _ 23 39 (.agg #[.int .i64 0, .string ⟨#[]⟩, .string ⟨#[]⟩, .string ⟨#[]⟩, .int .i64 0, .slice none 0 0, .slice none 0 0]) 112 rfl Tryd.underlying23 infoPN rfl (by decide) (by decide) u5 acc x [.int .i64 x.f0, .string x.f1, .string x.f2, .string x.f3, .int .i64 x.f4, .slice A5 m5 d5, .slice A6 m6 d6] (fun _ => True) (fun k => True ∧ some k ≠ u5.ownBlock) rfl rfl HW2.out.2.2.2 (fun _ h => h) (fun _ _ => trivial) HW2.out.2.2.1 (Below.refl _ _) hgs (by have := HO.out.2.2.2.2.2; have := HZ.out.1; omega) ?_))
        intro v3 w3 hR3 hB3 hg3 hat3
        have HW3 := Lib.hid (And.intro hR3 (And.intro (HW2.out.1.own HW2.out.2.2.1 (by decide) hg3) (gb_own HW2.out.2.1 hg3 (R_base HW2.out.2.2.1))))
        obtain ⟨A3, c3, e3⟩ := Kd.R_slice hR3
        subst e3
        clear hR3 hB3 hg3 hat3 hgs
        have hib : (i : Int) + 1 ≤ 100000000000 := by have := HZ.out.1; omega
        go_wp2_with fail
        refine ⟨⟨i, acc ++ [x], s2, by omega, by go_num, by have := HO.out.2.2.2.2.2; rw [List.length_append, List.length_singleton]; omega, HW3.out.1, HW3.out.2.1, HW3.out.2.2, Nat.le_trans H5.out.2 HO.out.2.2.2.1, H5.out.1⟩, by first | (simp [Lib.intOf]; done) | (simp [Lib.intOf]; omega)⟩
end Go.Proofs.YtijfedahhgcfpaaDoor
/- named.Get: its walk. -/
set_option linter.unusedVariables false
set_option linter.unusedSimpArgs false
namespace Go.Proofs.YtijfedahhgcfpaaDoor
open Go.RowKit Go.Proofs.YtijfedahhgcfpaaDoorW.PrintWords Go.Proofs.YtijfedahhgcfpaaDoorW.PrintLast

theorem results_row2 {P : Program} {w : World} {fn : Func} {a u ty : Nat} (hr : fn.results = #[.cell a ty, .tmp u]) (tmps : Array Value) (g : Nat) (hp : tmps.getD a undef = .pointer (some ⟨g, 0, none⟩)) (t : TypeId) (cs : Array Value) (fr : Nat × Nat) (d : TypeDesc) (hg : w.heap[g]? = some (.cells cs t fr))
    (hu : P.underlying ty = some d) (hd : (match d with | .struct _ | .array _ _ => true | _ => false) = true) (hi : (P.info? ty).map (·.size) = some cs.size) :
    (results fn tmps).run P w = .ok (.tuple #[.agg cs, tmps.getD u undef]) w := by
  have hrun := run_loadVar_row (P := P) w g t ty cs fr d hg hu hd hi
  rw [results_cell_tmp hr, hp]
  simp [asAddr, Result.andThen, hrun]
/-- What Get answers. -/
def getQ (l : List UInt8) : Pat := (getP l).getD ⟨⟨#[]⟩, [], []⟩
def getC (l : List UInt8) : Int := if (getP l).isSome = true then 0 else 3
theorem strOf_nmI (l : List UInt8) : strOfNums (nmI l) = baN l := by
  unfold strOfNums nmI baN
  have e : List.map (fun n : Int => UInt8.ofNat n.toNat) (List.map (fun b : UInt8 => (b.toNat : Int)) l) = l := by
    rw [List.map_map]
    conv => rhs; rw [← List.map_id l]
    exact List.map_congr_left (fun b _ => by simp)
  rw [e]
theorem rpat_fine (s : ByteArray) (h1 : (rpat (s, false)).2.2 = false) (h2 : (rpat (s, false)).2.1.size = 0) : patP s.data.toList = some ((rpat (s, false)).1, []) := by
  cases hp : patP s.data.toList with
  | none =>
    have := agrees_pat.none s hp
    rw [this] at h1
    cases h1
  | some q =>
    obtain ⟨p, r⟩ := q
    have e := agrees_pat.good s p r hp
    rw [e] at h2 ⊢
    simp only at h2 ⊢
    rw [baN_size] at h2
    rw [List.eq_nil_of_length_eq_zero h2]
/-- A patch while it is read: its box b, and the box r that the result will lie in. -/
structure QBox (w w' : World) (rb b r : Nat) (cs z : Array Value) (s : RS) : Prop where
  st : RAt w' rb s
  gr : w.grownBy w' (some rb)
  box : w'.heap[b]? = some (.cells cs 25 (0, 0))
  res : w'.heap[r]? = some (.cells z 25 (0, 0))
  hb : w.heap.size ≤ b
  hr : w.heap.size ≤ r
  ne : b ≠ r
  nb : rb ≠ b
  nr : rb ≠ r
theorem QBox.call {w w1 w2 : World} {rb b r : Nat} {cs z : Array Value} {s s' : RS} (h : QBox w w1 rb b r cs z s) (hs : RAt w2 rb s') (hg : w1.grownBy w2 (some rb)) : QBox w w2 rb b r cs z s' :=
  ⟨hs, gb_trans h.gr hg, gb_blk hg h.box (fun e => h.nb (by simpa using e.symm)), gb_blk hg h.res (fun e => h.nr (by simpa using e.symm)), h.hb, h.hr, h.ne, h.nb, h.nr⟩
theorem QBox.set {w w1 : World} {rb b r : Nat} {cs z : Array Value} {s : RS} (h : QBox w w1 rb b r cs z s) (j : Nat) (u : Value) : QBox w (w1.setCell ⟨b, j, none⟩ u) rb b r (cs.setIfInBounds j u) z s :=
  ⟨h.st.far h.nb j u, gb_setCell h.gr (.inr h.hb) u, blk_set h.box j u, (Below.heap_setCell w1 ⟨b, j, none⟩ u r (fun e => h.ne e.symm)).trans h.res, h.hb, h.hr, h.ne, h.nb, h.nr⟩
theorem R_setRowP {W : World} {base g t : Nat} {v : Value} {xs : List Prm} {old : Array Value} (h : Kd.R kPrm 39 W base (fun _ => True) v xs) (hb : W.heap[g]? = some (.cells old t (0, 0))) (ht : ∀ q, q ∈ 39 :: kPrm.E → q ≠ t) (cs : Array Value) : Kd.R kPrm 39 (W.setRow g cs) base (fun _ => True) v xs :=
  Kd.R_mono (Kd.R_step (Kd.R_types h hb ht) (fun k hk _ => setRow_other W g k cs hk.2)) (fun _ _ => trivial)
set_option maxRecDepth 100000 in
set_option maxHeartbeats 16000000 in
theorem get_any (A : Option Addr) (n c : Nat) (l : List UInt8) (hn : l.length = n) (w : World) (hC : Kd.C (Kd.int .u8) w A n (nmI l)) (hln : n < 4294967281) (hsz : ∀ p, patP l = some (p, []) → p.deps.length ≤ 1000000000 ∧ p.body.length ≤ 1000000000 ∧ ∀ x ∈ p.body, sizesOk x) (hG : Ground w) :
    Calls Tryd.prog 11 #[.slice A n c] w fun e w' => ∃ v1 v2, e = .returned (.tuple #[.agg #[.string (getQ l).name, v1, v2], .int .i64 (getC l)]) ∧ Kd.string.R 9 w' w.heap.size (fun _ => True) v1 (getQ l).deps ∧ Kd.R kPrm 39 w' w.heap.size (fun _ => True) v2 (getQ l).body ∧ Below w.heap.size w w' := by
  have hget := getP_read (baN l)
  rw [baN_list] at hget
  have hfin := rpat_fine (baN l)
  rw [baN_list] at hfin
  obtain ⟨⟨t0, s1⟩, hq0⟩ : ∃ q, q = rtext (baN l, false) := ⟨_, rfl⟩
  obtain ⟨⟨l1, s2⟩, hq1⟩ : ∃ q, q = rsome rtext s1 := ⟨_, rfl⟩
  obtain ⟨⟨l2, s3⟩, hq2⟩ : ∃ q, q = rsome rprim s2 := ⟨_, rfl⟩
  have hrp : rpat (baN l, false) = (⟨t0, l1, l2⟩, s3) := by
    simp only [rpat, rbd, rret]
    rw [← hq0, ← hq1, ← hq2]
  rw [hrp] at hget hfin
  have hz1 : s1.1.size ≤ n := by
    have h0 := rtext_size (baN l, false)
    rw [← hq0] at h0
    rw [← hn, ← baN_size l]
    exact h0
  have hz2 : s2.1.size ≤ n := by
    have h0 := rsome_size rtext_size s1
    rw [← hq1] at h0
    exact Nat.le_trans h0 hz1
  have HGET := Lib.hid (And.intro hget (And.intro hfin hsz))
  have HQ := Lib.hid (And.intro hq0 (And.intro hq1 hq2))
  have HZ := Lib.hid (And.intro hz1 (And.intro hz2 hln))
  have HC := Lib.hid hC
  have HN := Lib.hid hn
  have HG := Lib.hid hG
  clear hget hfin hsz hrp hq0 hq1 hq2 hz1 hz2 hln hC hn hG
  obtain ⟨y0, hy0⟩ : ∃ y, y = w.alloc (.cells #[.string ⟨#[]⟩, .slice none 0 0, .slice none 0 0] 25) := ⟨_, rfl⟩
  have hB0 : Below w.heap.size w y0 := by rw [hy0]; exact (Below.refl _ _).alloc (Nat.le_refl _) _
  have hres : y0.heap[w.heap.size]? = some (.cells #[.string ⟨#[]⟩, .slice none 0 0, .slice none 0 0] 25 (0, 0)) := by rw [hy0]; exact heap_alloc_new w _
  have hst : (convert 26 9 (.slice A n c)).run Tryd.prog y0 = .ok (.string (baN l)) y0 := by
    rw [← strOf_nmI l]
    exact Kd.C_string Tryd.underlying26 Tryd.underlying5 Tryd.underlying9 (Kd.C_below HC.out hB0)
  have HY0 := Lib.hid (And.intro hB0 hres)
  have HE := Lib.hid hy0
  clear hB0 hres hy0
  go_enter Tryd.func11, Tryd.ntmps11
  go_wp2_with fail
  rw [← HE.out, hst]
  simp only [Result.andThen]
  rw [Oper.upon_value]
  have hb1 : RAt (y0.alloc (.cells #[.string (baN l), .bool false] 58)) y0.heap.size (baN l, false) := heap_alloc_new y0 _
  have hg1 : w.grownBy (y0.alloc (.cells #[.string (baN l), .bool false] 58)) (some y0.heap.size) := gb_alloc (gb_below HY0.out.1 _) _
  have hr1 : (y0.alloc (.cells #[.string (baN l), .bool false] 58)).heap[w.heap.size]? = some (.cells #[.string ⟨#[]⟩, .slice none 0 0, .slice none 0 0] 25 (0, 0)) := (Lib.alloc_old _ _ _ (blk_lt HY0.out.2)).trans HY0.out.2
  have hrr : y0.heap.size ≠ w.heap.size := fun e => by have := blk_lt HY0.out.2; omega
  obtain ⟨rb, hrb⟩ : ∃ rb, rb = y0.heap.size := ⟨_, rfl⟩
  have hrbw : w.heap.size ≤ rb := by rw [hrb]; exact HY0.out.1.size
  rw [← hrb] at hb1 hg1 hrr
  have HB1 := Lib.hid (And.intro hb1 (And.intro hg1 (And.intro hr1 (And.intro hrr hrbw))))
  have HRB := Lib.hid hrb
  clear hb1 hg1 hr1 hrr hst hrb hrbw
  have hgr : ∀ W, w.grownBy W (some rb) → Ground W := fun W hW => HG.out.below (gb_to_below hW (Nat.le_refl _) (fun k e => by cases e; exact HB1.out.2.2.2.2))
  have HGR := Lib.hid hgr
  clear hgr
  go_wp2_with fail
  rw [← HRB.out]
  have hc := rtext_any rb (baN l, false) _ HB1.out.1 (by show (baN l).size < _; rw [baN_size, HN.out]; exact HZ.out.2.2) (HGR.out _ HB1.out.2.1)
  rw [← HQ.out.1] at hc
  refine hc.mono ?_
  clear hc
  rintro e w2 ⟨rfl, hr, hg⟩
  simp only at hr
  have hpb : QBox w (w2.alloc (.cells #[.string t0, .slice none 0 0, .slice none 0 0] 25)) rb w2.heap.size w.heap.size #[.string t0, .slice none 0 0, .slice none 0 0] #[.string ⟨#[]⟩, .slice none 0 0, .slice none 0 0] s1 :=
    ⟨hr.below ((Below.refl _ _).alloc (Nat.le_refl _) _), gb_alloc (gb_trans HB1.out.2.1 hg) _, heap_alloc_new w2 _, (Lib.alloc_old _ _ _ (Nat.lt_of_lt_of_le (blk_lt HB1.out.2.2.1) hg.size)).trans (gb_blk hg HB1.out.2.2.1 (fun e => HB1.out.2.2.2.1 (by simpa using e.symm))), Nat.le_trans HB1.out.2.1.size hg.size, Nat.le_refl _, (fun e => by have := blk_lt HB1.out.2.2.1; have := hg.size; omega), (fun e => by have := blk_lt hr; omega), HB1.out.2.2.2.1⟩
  have PB := Lib.hid hpb
  clear hpb hr hg
  obtain ⟨z0, z1, z2⟩ := cells3p PB.out.box
  have gl := blk_lt PB.out.box
  go_wp2_with fail
  have hc := rlist_any rb s1 _ PB.out.st (Nat.lt_of_le_of_lt HZ.out.1 HZ.out.2.2) (fun W hW => HGR.out W (gb_trans PB.out.gr hW))
  rw [← HQ.out.2.1] at hc
  refine hc.mono ?_
  clear hc z0 z1 z2 gl
  rintro e w3 ⟨v1, rfl, hR1, hr, hg⟩
  simp only at hr hR1
  obtain ⟨A1, d1, ev⟩ := Kd.R_slice hR1
  subst ev
  obtain ⟨m1, hm1⟩ : ∃ m, m = l1.length := ⟨_, rfl⟩
  rw [← hm1] at hR1
  have hR1 := Kd.R_lower hR1 PB.out.gr.size
  have hpb := PB.out.call hr hg
  have hR1 := Kd.R_set hR1 hpb.box (fun q hq => ty_ne hq _ (by decide)) 1 (.slice A1 m1 d1)
  have HR1 := Lib.hid (And.intro hm1 hR1)
  obtain ⟨z0, z1, z2⟩ := cells3p hpb.box
  have gl := blk_lt hpb.box
  have fz1 := Lib.frozen_of_heap hpb.box 1
  have hpb2 := hpb.set 1 (.slice A1 m1 d1)
  have PB := Lib.hid hpb2
  rw [← hm1]
  have eg := enters_pm
  clear hpb hpb2 hr hg hR1 hm1
  go_wp2_with fail
  clear z0 z1 z2 gl fz1
  have hc := rprims_any rb s2 _ PB.out.st (Nat.lt_of_le_of_lt HZ.out.2.1 HZ.out.2.2) (fun W hW => HGR.out W (gb_trans PB.out.gr hW))
  rw [← HQ.out.2.2] at hc
  refine hc.mono ?_
  clear hc
  rintro e w4 ⟨v2, rfl, hR2, hr, hg⟩
  simp only at hr hR2
  obtain ⟨A2, d2, ev⟩ := Kd.R_slice hR2
  subst ev
  obtain ⟨m2, hm2⟩ : ∃ m, m = l2.length := ⟨_, rfl⟩
  rw [← hm2] at hR2
  have hR2 := Kd.R_lower hR2 PB.out.gr.size
  have hR1 := R_call HR1.out.2 PB.out.st hg
  have hpb := PB.out.call hr hg
  have hR2 := Kd.R_set hR2 hpb.box primE_types2 2 (.slice A2 m2 d2)
  have hR1 := Kd.R_set hR1 hpb.box (fun q hq => ty_ne hq _ (by decide)) 2 (.slice A2 m2 d2)
  have HR2 := Lib.hid (And.intro hm2 hR2)
  have HR1' := Lib.hid hR1
  obtain ⟨z0, z1, z2⟩ := cells3p hpb.box
  have gl := blk_lt hpb.box
  have fz2 := Lib.frozen_of_heap hpb.box 2
  have hpb2 := hpb.set 2 (.slice A2 m2 d2)
  obtain ⟨w5, hw5⟩ : ∃ w5, w5 = w4.setCell ⟨w2.heap.size, 2, none⟩ (.slice A2 m2 d2) := ⟨_, rfl⟩
  rw [← hw5] at hpb2 HR2 HR1'
  have PB5 := Lib.hid hpb2
  have HW5 := Lib.hid hw5
  rw [← hm2]
  clear hpb hpb2 hr hg hR1 hm2 hR2 hw5 eg PB
  obtain ⟨s3b, bad⟩ := s3
  go_upto_region 5 with (fail)
  rw [← HW5.out]
  clear z0 z1 z2 gl fz2
  obtain ⟨k0, k1, gk, _, _⟩ := PB5.out.st.cells
  obtain ⟨z0, z1, z2⟩ := cells3p PB5.out.box
  have gl := blk_lt PB5.out.box
  cases bad with
  | true =>
    have GET := Lib.hid (show getP l = none by rw [HGET.out.1, if_pos (.inl rfl)])
    go_wp2_with (first
      | refine wpList_store_row rfl (.tmp 2) (.tmp 37) 25 rfl w.heap.size rfl #[.string ⟨#[]⟩, .slice none 0 0, .slice none 0 0] rfl 25 #[.string ⟨#[]⟩, .slice none 0 0, .slice none 0 0] PB5.out.res (by kernel_rfl) rfl (by simp [Value.oneCell']) rfl ?_)
    refine bodyPost_ret (results_row2 (P := Tryd.prog) (fn := Tryd.f11) (a := 2) (u := 3) (ty := 25) rfl _ w.heap.size rfl 25 #[.string ⟨#[]⟩, .slice none 0 0, .slice none 0 0] (0, 0) _ (setRow_heap _ _ _ _ _ _ PB5.out.res) (Tryd.underlying25) rfl (by kernel_rfl)) rfl ?_
    have hq : getQ l = ⟨⟨#[]⟩, [], []⟩ := by unfold getQ; rw [GET.out]; rfl
    have hcq : getC l = 3 := by unfold getC; rw [GET.out]; rfl
    rw [hq, hcq]
    exact ⟨.slice none 0 0, .slice none 0 0, rfl, Kd.R_nil _ _ _ _ _, Kd.R_nil _ _ _ _ _, gb_to_below (gb_setRow PB5.out.gr (Nat.le_refl _) _) (Nat.le_refl _) (fun k e => by cases e; exact HB1.out.2.2.2.2)⟩
  | false =>
    by_cases h0 : s3b.size = 0
    · have hs0 : s3b = ⟨#[]⟩ := by
        obtain ⟨⟨x⟩⟩ := s3b
        cases x with
        | nil => rfl
        | cons a x => simp [ByteArray.size] at h0
      have hsz := HGET.out.2.2 _ (HGET.out.2.1 rfl h0)
      obtain ⟨Aa, ca, ea, hla, hCa⟩ := Kd.R_reads HR1'.out
      injection ea with e1 e2 e3
      subst e1
      rw [← e2] at hCa
      obtain ⟨Ab, cb, eb, hlb, hCb⟩ := Kd.R_reads HR2.out.2
      injection eb with e4 e5 e6
      subst e4
      rw [← e5] at hCb
      have hright := nright_any ⟨t0, l1, l2⟩ A1 A2 m1 m2 d1 d2 w5 e2.symm e5.symm hCa hCb hsz.2.2 (by rw [e2]; exact hsz.1) (by rw [e5]; exact hsz.2.1)
      have hg0 := HGET.out.1
      obtain ⟨q, hq⟩ : ∃ q, q = patR ⟨t0, l1, l2⟩ := ⟨_, rfl⟩
      rw [← hq] at hright hg0
      have HRT := Lib.hid hright
      have HG0 := Lib.hid (And.intro hg0 h0)
      clear e2 e3 e5 e6 hla hlb hCa hCb hsz hright hq hg0 h0
      subst hs0
      go_wp2_with fail
      refine HRT.out.mono ?_
      rintro e w6 ⟨rfl, hB6⟩
      have HB6 := Lib.hid hB6
      have PB6 := Lib.hid (PB5.out.call (PB5.out.st.below hB6) (gb_below hB6 _))
      clear hB6 z0 z1 z2 gl k0 k1 gk
      cases q with
      | false =>
        have GET := Lib.hid (show getP l = none by rw [HG0.out.1, if_pos (.inr (.inr rfl))])
        go_wp2_with (first
          | refine wpList_store_row rfl (.tmp 2) (.tmp 37) 25 rfl w.heap.size rfl #[.string ⟨#[]⟩, .slice none 0 0, .slice none 0 0] rfl 25 #[.string ⟨#[]⟩, .slice none 0 0, .slice none 0 0] PB6.out.res (by kernel_rfl) rfl (by simp [Value.oneCell']) rfl ?_)
        refine bodyPost_ret (results_row2 (P := Tryd.prog) (fn := Tryd.f11) (a := 2) (u := 3) (ty := 25) rfl _ w.heap.size rfl 25 #[.string ⟨#[]⟩, .slice none 0 0, .slice none 0 0] (0, 0) _ (setRow_heap _ _ _ _ _ _ PB6.out.res) (Tryd.underlying25) rfl (by kernel_rfl)) rfl ?_
        have hq : getQ l = ⟨⟨#[]⟩, [], []⟩ := by unfold getQ; rw [GET.out]; rfl
        have hcq : getC l = 3 := by unfold getC; rw [GET.out]; rfl
        rw [hq, hcq]
        exact ⟨.slice none 0 0, .slice none 0 0, rfl, Kd.R_nil _ _ _ _ _, Kd.R_nil _ _ _ _ _, gb_to_below (gb_setRow PB6.out.gr (Nat.le_refl _) _) (Nat.le_refl _) (fun k e => by cases e; exact HB1.out.2.2.2.2)⟩
      | true =>
        have GET := Lib.hid (show getP l = some ⟨t0, l1, l2⟩ by rw [HG0.out.1, if_neg (fun h => h.elim (fun h => by cases h) (fun h => h.elim (fun h => h HG0.out.2) (fun h => by cases h)))])
        go_wp2_with (first
          | refine wpList_load_row rfl (.tmp 5) 25 rfl w2.heap.size rfl 25 #[.string t0, .slice A1 m1 d1, .slice A2 m2 d2] (0, 0) _ PB6.out.box (Tryd.underlying25) rfl (by kernel_rfl) ?_
          | refine wpList_store_row rfl (.tmp 2) (.tmp 38) 25 rfl w.heap.size rfl #[.string t0, .slice A1 m1 d1, .slice A2 m2 d2] rfl 25 #[.string ⟨#[]⟩, .slice none 0 0, .slice none 0 0] PB6.out.res (by kernel_rfl) rfl (by simp [Value.oneCell']) rfl ?_)
        refine bodyPost_ret (results_row2 (P := Tryd.prog) (fn := Tryd.f11) (a := 2) (u := 3) (ty := 25) rfl _ w.heap.size rfl 25 #[.string t0, .slice A1 m1 d1, .slice A2 m2 d2] (0, 0) _ (setRow_heap _ _ _ _ _ _ PB6.out.res) (Tryd.underlying25) rfl (by kernel_rfl)) rfl ?_
        have hq : getQ l = ⟨t0, l1, l2⟩ := by unfold getQ; rw [GET.out]; rfl
        have hcq : getC l = 0 := by unfold getC; rw [GET.out]; rfl
        rw [hq, hcq]
        exact ⟨.slice A1 m1 d1, .slice A2 m2 d2, rfl, R_setRow (Kd.R_below HR1'.out HB6.out) PB6.out.res (by decide) _, R_setRowP (Kd.R_below HR2.out.2 HB6.out) PB6.out.res primE_types2 _, gb_to_below (gb_setRow PB6.out.gr (Nat.le_refl _) _) (Nat.le_refl _) (fun k e => by cases e; exact HB1.out.2.2.2.2)⟩
    · have hem : s3b.toList.isEmpty = false := by
        rw [ByteArray.toList_eq, List.isEmpty_eq_false_iff]
        intro h
        have h2 : s3b.data.toList.length = s3b.size := by rw [Array.length_toList]; rfl
        rw [h] at h2
        exact h0 h2.symm
      have GET := Lib.hid (show getP l = none by rw [HGET.out.1, if_pos (.inr (.inl h0))])
      clear h0
      go_wp2_with (first
          | refine wpList_store_row rfl (.tmp 2) (.tmp 37) 25 rfl w.heap.size rfl #[.string ⟨#[]⟩, .slice none 0 0, .slice none 0 0] rfl 25 #[.string ⟨#[]⟩, .slice none 0 0, .slice none 0 0] PB5.out.res (by kernel_rfl) rfl (by simp [Value.oneCell']) rfl ?_)
      refine bodyPost_ret (results_row2 (P := Tryd.prog) (fn := Tryd.f11) (a := 2) (u := 3) (ty := 25) rfl _ w.heap.size rfl 25 #[.string ⟨#[]⟩, .slice none 0 0, .slice none 0 0] (0, 0) _ (setRow_heap _ _ _ _ _ _ PB5.out.res) (Tryd.underlying25) rfl (by kernel_rfl)) rfl ?_
      have hq : getQ l = ⟨⟨#[]⟩, [], []⟩ := by unfold getQ; rw [GET.out]; rfl
      have hcq : getC l = 3 := by unfold getC; rw [GET.out]; rfl
      rw [hq, hcq]
      exact ⟨.slice none 0 0, .slice none 0 0, rfl, Kd.R_nil _ _ _ _ _, Kd.R_nil _ _ _ _ _, gb_to_below (gb_setRow PB5.out.gr (Nat.le_refl _) _) (Nat.le_refl _) (fun k e => by cases e; exact HB1.out.2.2.2.2)⟩
end Go.Proofs.YtijfedahhgcfpaaDoor
