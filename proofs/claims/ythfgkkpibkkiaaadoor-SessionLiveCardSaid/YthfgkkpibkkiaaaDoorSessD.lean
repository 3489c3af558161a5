/- Calls at an end: Got. -/
import Derived.Test.YthfgkkpibkkiaaaDoorSessC
set_option linter.unusedVariables false
set_option linter.unusedSimpArgs false
namespace Go.Proofs.YthfgkkpibkkiaaaDoor
open Go.RowKit Go.Proofs.YthfgkkpibkkiaaaDoorW.PrintWords Go.Proofs.YthfgkkpibkkiaaaDoorW.PrintLast Go.Proofs.YthfgkkpibkkiaaaDoor.PSessionPlays

/-- A slice as it stands in a cell. -/
abbrev Sl := Option Addr × Nat × Nat
def encS (p : Sl) : Value := .slice p.1 p.2.1 p.2.2
abbrev kS : Kd Sl := Kd.scalar encS (fun _ => rfl)
def TxtAt (w : World) (p : Sl) (l : List Int) : Prop := Kd.C (Kd.int .u8) w p.1 l.length l ∧ p.2.1 = l.length ∧ l.length ≤ p.2.2
theorem TxtAt.below {w w' : World} {p : Sl} {l : List Int} (h : TxtAt w p l) (hB : Below w.heap.size w w') : TxtAt w' p l := ⟨Kd.C_below h.1 hB, h.2⟩
theorem raw_of {w : World} {A : Option Addr} {n : Nat} {xs : List (List Int)} (h : kT.C w A n xs) : ∃ ps : List Sl, kS.C w A n ps ∧ ps.length = n ∧ ∀ (j : Nat) (l : List Int), xs[j]? = some l → ∃ p, ps[j]? = some p ∧ TxtAt w p l := by
  obtain ⟨h1, h2, h3⟩ := h
  rcases Nat.eq_zero_or_pos n with h0 | h0
  · subst h0
    exact ⟨[], ⟨rfl, h2, fun h => absurd h (Nat.lt_irrefl 0)⟩, rfl, fun j l hj => by rw [List.eq_nil_of_length_eq_zero h1] at hj; simp at hj⟩
  · obtain ⟨ad, rfl, hc⟩ := h3 h0
    have key : ∀ j : Fin n, ∃ p : Sl, TxtAt w p (xs[j.val]'(by omega)) ∧ w.cell? (ad.add j.val) = some (encS p) := by
      intro j
      obtain ⟨c, hl, ⟨A', c', rfl, hle, hC⟩, hcell⟩ := hc j.val _ (List.getElem?_eq_getElem (by omega))
      refine ⟨(A', (xs[j.val]'(by omega)).length, c'), ⟨hC, rfl, hle⟩, ?_⟩
      have := hcell 0 _ rfl
      have h1 : kT.sz = 1 := rfl
      rw [h1, Nat.mul_one, Nat.add_zero] at this
      exact this
    obtain ⟨f, hf⟩ := Classical.axiomOfChoice key
    refine ⟨List.ofFn f, ⟨by simp, h2, fun _ => ⟨ad, rfl, fun j p hj => ?_⟩⟩, by simp, fun j l hj => ?_⟩
    · obtain ⟨hj1, rfl⟩ := List.getElem?_eq_some_iff.1 hj
      simp only [List.length_ofFn] at hj1
      refine ⟨[encS (f ⟨j, hj1⟩)], rfl, by rw [List.getElem_ofFn]; rfl, fun i u hi => ?_⟩
      cases i with
      | zero =>
        simp at hi
        subst hi
        have h1 : kS.sz = 1 := rfl
        rw [h1, Nat.mul_one, Nat.add_zero]
        exact (hf ⟨j, hj1⟩).2
      | succ i => simp at hi
    · obtain ⟨hj1, rfl⟩ := List.getElem?_eq_some_iff.1 hj
      exact ⟨f ⟨j, by omega⟩, by rw [List.getElem?_eq_getElem (by simpa using (by omega : j < n)), List.getElem_ofFn], (hf ⟨j, by omega⟩).1⟩
set_option maxRecDepth 100000 in
set_option maxHeartbeats 4000000 in
theorem sclone_any (A : Option Addr) (n c : Nat) (ps : List Sl) (w : World) (h : kS.C w A n ps) (hl : ps.length = n) (hn : n ≤ 1000000) :
    Calls Tryd.prog 43 #[.slice A n c] w fun r w' => ∃ v, r = .returned v ∧ kS.R 22 w' w.heap.size (fun _ => True) v ps ∧ Below w.heap.size w w' := by
  have HC := Lib.hid h
  have HL := Lib.hid hl
  clear h hl
  cases A with
  | none =>
    have hn0 := fun (w : World) (n c : Nat) => Lib.run_eql_slice_nil (P := Tryd.prog) w 45 22 none n c 0 0 Tryd.underlying45
    have h0 : ps = [] := by
      cases hp : ps with
      | nil => rfl
      | cons p q =>
        rcases HC.out with ⟨_, _, h3⟩
        obtain ⟨ad, e, _⟩ := h3 (by rw [← HL.out, hp]; simp)
        cases e
    go_enter Tryd.func43, Tryd.ntmps43
    go_wp2
    go_ret
    rw [h0]
    exact ⟨_, rfl, Kd.R_nil _ _ _ _ _, Below.refl _ _⟩
  | some ad =>
    have hn0 := fun (w : World) (ad : Addr) (n c : Nat) => Lib.run_eql_slice_nil (P := Tryd.prog) w 45 22 (some ad) n c 0 0 Tryd.underlying45
    have HB := Lib.hid ((Below.refl w.heap.size w).alloc (Nat.le_refl _) (.cells #[] 22))
    go_enter Tryd.func43, Tryd.ntmps43
    go_wp2_with (at_builtin; refine Kd.R_append_rows (w0 := w) (W := w.alloc (.cells #[] 22)) kS (Rr := fun x cs => cs = [encS x]) w.heap.size rfl _ _ 45 22 (.slice none 0 0) 24 rfl Tryd.underlying45 infoT rfl (by decide) (by decide) (.slice (some ⟨w.heap.size, 0, none⟩) 0 0) [] ps (some ad) n c (fun _ => True) (fun _ => False) rfl rfl ⟨fun _ _ => trivial, [], World.ownsRow_made (base := w.heap.size) (e := 22) (size := 1) w #[] 0 (Nat.le_refl _) (by decide) rfl, Reps.none _ _⟩ (Kd.C_below HC.out HB.out) (fun x cs h => h) (fun _ h => h.elim) (fun _ _ => trivial) HB.out HB.out.size (by simp; omega) ?_)
    intro v1 w1 hR hB2 _ _
    have HR := Lib.hid hR
    have HB2 := Lib.hid hB2
    clear hR hB2
    go_wp2_with fail
    go_ret
    exact ⟨_, rfl, by have := HR.out; simpa using this, HB2.out⟩
theorem toT {w : World} {base : Nat} {ok : Nat → Prop} {v : Value} {ps : List Sl} {xs : List (List Int)} (h : kS.R 22 w base ok v ps) (hl : ps.length = xs.length)
    (he : ∀ (j : Nat) (l : List Int), xs[j]? = some l → ∃ p, ps[j]? = some p ∧ (Kd.int .u8).R 5 w base (fun k => ok k ∧ some k ≠ v.ownBlock) (encS p) l) : kT.R 22 w base ok v xs := by
  obtain ⟨h0, inner, ho, hr⟩ := h
  have h1 : kS.sz = 1 := rfl
  refine ⟨h0, inner, by rw [← hl]; exact ho, ?_, fun j l hj => ?_⟩
  · have := hr.1
    rw [this, hl]
    rfl
  · obtain ⟨p, hp, hR⟩ := he j l hj
    exact ⟨encS p, hr.2 j p hp, hR⟩
set_option maxRecDepth 100000 in
set_option maxHeartbeats 4000000 in
theorem got_any (w : World) (base g : Nat) (S : Nat → Prop) (e : E) (h : EndAt 77 w base g S e) (hq : e.came.length ≤ 1000000) (hsz : ∀ l ∈ e.came, l.length ≤ 140737488351232) :
    Calls Tryd.prog 28 #[.pointer (some ⟨g, 0, none⟩)] w fun r w' => ∃ v, r = .returned v ∧ kT.R 22 w' w.heap.size (fun _ => True) v e.came ∧ Below w.heap.size w w' := by
  obtain ⟨vs, vc, Ss, Sc, h1, h2, h3, h4, h5⟩ := h.row
  obtain ⟨Ac, cc, rfl, hcc, hCc⟩ := Kd.R_reads h3
  obtain ⟨qs, hqs, hql, hqt⟩ := raw_of hCc
  have hlt := h.glt
  obtain ⟨c0, c1, c2, c3, _⟩ := cells4 h1
  obtain ⟨n, hn⟩ : ∃ n, n = e.came.length := ⟨_, rfl⟩
  obtain ⟨xs, hxs⟩ : ∃ xs, xs = e.came := ⟨_, rfl⟩
  rw [← hn] at c3 hq hqs hql
  rw [← hxs] at hqt hsz hn ⊢
  have HN := Lib.hid hn
  have HQS := Lib.hid (And.intro hqs (And.intro hql hqt))
  have HSZ := Lib.hid hsz
  clear h h1 h2 h3 h4 h5 hcc hCc hqs hql hqt hsz hn hxs c0 c1 c2
  go_enter Tryd.func28, Tryd.ntmps28
  go_wp2_with fail
  refine (sclone_any Ac n cc qs w HQS.out.1 HQS.out.2.1 hq).mono ?_
  rintro r w1 ⟨v, rfl, hR, hB⟩
  obtain ⟨Av, cv, rfl, hcv, _⟩ := Kd.R_reads hR
  have hqn : qs.length = n := HQS.out.2.1
  rw [hqn] at hR hcv ⊢
  have HR := Lib.hid hR
  have HB := Lib.hid hB
  by_cases h0 : n = 0
  · have hxe : xs = [] := List.eq_nil_of_length_eq_zero (by rw [← HN.out]; exact h0)
    have hqe : qs = [] := List.eq_nil_of_length_eq_zero (by rw [hqn]; exact h0)
    have HX := Lib.hid (And.intro hxe hqe)
    clear hR hB hqn hxe hqe
    subst h0
    go_wp2_with fail
    go_loopw [13] (fun vi wr => vi = .int .i64 0 ∧ wr = w1) (fun _ _ => 0)
    case atStart => exact ⟨rfl, rfl⟩
    case round =>
      obtain ⟨rfl, hw⟩ := hrel
      have hw2 := hw.symm
      clear hw
      subst hw2
      go_wp2_with fail
      go_ret
      refine ⟨_, rfl, ?_, HB.out⟩
      rw [HX.out.1]
      refine toT (ps := []) (by have := HR.out; rw [HX.out.2] at this; exact this) rfl (fun j l hj => by simp at hj)
  · obtain ⟨go, cap, e1, hgo, hgl, _⟩ := Kd.R_form hR (by rw [hqn]; omega)
    rw [hqn] at e1
    obtain ⟨rfl, rfl⟩ : Av = some ⟨go, 0, none⟩ ∧ cv = cap := by
      injection e1 with e1 _ e3
      exact ⟨e1, e3⟩
    clear hR hB e1
    go_wp2_with fail
    go_loopw [13] (fun vi wr => ∃ (i : Nat) (ps : List Sl), i ≤ n ∧ vi = .int .i64 (i : Int) ∧ kS.R 22 wr w.heap.size (fun _ => True) (.slice (some ⟨go, 0, none⟩) n cv) ps ∧ ps.length = n ∧
      (∀ (j : Nat) (l : List Int), j < i → xs[j]? = some l → ∃ p, ps[j]? = some p ∧ (Kd.int .u8).R 5 wr w.heap.size (fun k => k ≠ go) (encS p) l) ∧ (∀ j, i ≤ j → ps[j]? = qs[j]?) ∧ Below w.heap.size w wr) (fun vi _ => n - (intOf vi).toNat)
    case atStart => exact ⟨0, qs, Nat.zero_le _, rfl, HR.out, hqn, fun j l hj => absurd hj (Nat.not_lt_zero _), fun _ _ => rfl, HB.out⟩
    case round =>
      obtain ⟨i, ps, hi, rfl, hK, hpl, hdone, hleft, hBr⟩ := hrel
      have HK := Lib.hid (And.intro hK (And.intro hpl (And.intro hdone hleft)))
      have HBr := Lib.hid hBr
      by_cases hin : i < n
      · have hin1 : (i : Int) < (n : Int) := by omega
        have hi0 : (0 : Int) ≤ (i : Int) := by omega
        have hxi : i < xs.length := by rw [← HN.out]; exact hin
        obtain ⟨p, hp, hT⟩ := HQS.out.2.2 i _ (List.getElem?_eq_getElem hxi)
        have hpi : ps[i]? = some p := (hleft i (Nat.le_refl _)).trans hp
        obtain ⟨hci, hfi⟩ := Kd.R_celln (none, 0, 0) hK (i : Int) hi0 hin1
        rw [Int.toNat_natCast] at hci hfi
        rw [show rdOf ((none, 0, 0) : Sl) ps (i : Int) = p from by unfold rdOf; rw [Int.toNat_natCast, List.getD_eq_getElem?_getD, hpi]; rfl] at hci
        obtain ⟨l, hl⟩ : ∃ l, l = xs[i]'hxi := ⟨_, rfl⟩
        rw [← hl] at hT
        have hT2 := hT.below HBr.out
        obtain ⟨Ap, np, cp⟩ := p
        obtain ⟨t1, t2, t3⟩ := hT2
        simp only at t1 t2 t3
        subst t2
        obtain ⟨go', _, e2, _, hgl2', _⟩ := Kd.R_form hK (by rw [hpl]; omega)
        have hgl2 : go < wr.heap.size := by
          have e3 : go = go' := by
            injection e2 with e2 _ _
            injection e2 with e2
            injection e2
          rw [e3]
          exact hgl2'
        clear e2 hgl2'
        have hci' : wr.cell? ⟨go, i, none⟩ = some (.slice Ap l.length cp) := hci
        have HT := Lib.hid t1
        have HL := Lib.hid (And.intro hl (HSZ.out l (by rw [hl]; exact List.getElem_mem hxi)))
        clear hK hpl hdone hleft hBr hT hl hci hp hpi t1
        go_wp2_with fail
        refine (clone_any Ap cp l wr HT.out t3 HL.out.2).mono ?_
        rintro r w3 ⟨v3, rfl, hR3, hB3⟩
        obtain ⟨A3, c3', rfl⟩ := Kd.R_slice hR3
        have HR3 := Lib.hid hR3
        have HB3 := Lib.hid hB3
        clear hR3 hB3
        have d1 := (HB3.out.cell (p := ⟨go, i, none⟩) hgl2).trans hci'
        have d2 := (HB3.out.frozen (p := ⟨go, i, none⟩) hgl2).trans hfi
        have d3 : go < w3.heap.size := by have := HB3.out.size; omega
        clear hci' hfi
        go_wp2_with fail
        obtain ⟨hK, hpl, hdone, hleft⟩ := HK.out
        have hput := Kd.R_putn (Kd.R_below hK HB3.out) (i : Int) (A3, l.length, c3')
        rw [Int.toNat_natCast] at hput
        have hR3 : (Kd.int .u8).R 5 w3 w.heap.size (fun k => k ≠ go) (encS (A3, l.length, c3')) l := Kd.R_lower (Kd.R_mono (Kd.R_bound HR3.out) (fun k hk => by have := hk.2.1; omega)) HBr.out.size
        refine ⟨⟨i + 1, ps.set i (A3, l.length, c3'), by omega, by go_num, hput, by rw [List.length_set]; exact hpl, fun j l' hj hjl => ?_, fun j hj => ?_, ?_⟩, by first | (simp [intOf]; done) | (simp [intOf]; omega)⟩
        · by_cases e : j = i
          · subst e
            have hll : l' = l := by
              rw [List.getElem?_eq_getElem hxi] at hjl
              rw [HL.out.1]
              exact (Option.some.inj hjl).symm
            subst hll
            exact ⟨_, List.getElem?_set_self (by omega), Kd.R_far hR3 (fun k hk => hk) _⟩
          · obtain ⟨p', hp', hRp⟩ := hdone j l' (by omega) hjl
            exact ⟨p', by rw [List.getElem?_set_ne (fun h => e h.symm)]; exact hp', Kd.R_far (Kd.R_below hRp HB3.out) (fun k hk => hk) _⟩
        · rw [List.getElem?_set_ne (by omega)]
          exact hleft j (by omega)
        · exact (HBr.out.trans (HB3.out.mono HBr.out.size)).setCell (p := ⟨go, i, none⟩) hgo _
      · obtain rfl : i = n := by omega
        have hin1 : ¬ (i : Int) < (i : Int) := by omega
        clear hK hpl hdone hleft hBr
        go_wp2_with fail
        go_ret
        refine ⟨_, rfl, toT HK.out.1 (by rw [HK.out.2.1, HN.out]) (fun j l hj => ?_), HBr.out⟩
        have hjl : j < i := by rw [HN.out]; exact (List.getElem?_eq_some_iff.1 hj).1
        obtain ⟨p, hp, hR⟩ := HK.out.2.2.1 j l hjl hj
        exact ⟨p, hp, Kd.R_mono hR (fun k hk => ⟨trivial, by simp [Value.ownBlock]; exact hk⟩)⟩
end Go.Proofs.YthfgkkpibkkiaaaDoor
