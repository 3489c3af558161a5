/- Two ends, and what is on its way: what came is a beginning of what was sent; it is all there behind enough rounds: plain. -/
import Derived.Test.YthfgkkpibkkiaaaDoorSessE
set_option linter.unusedVariables false
set_option linter.unusedSimpArgs false
namespace Go.Proofs.YthfgkkpibkkiaaaDoor
open Go.RowKit Go.Proofs.YthfgkkpibkkiaaaDoorW.PrintWords Go.Proofs.YthfgkkpibkkiaaaDoorW.PrintLast Go.Proofs.YthfgkkpibkkiaaaDoor.PSessionPlays

theorem windowOf_length (e : E) : (windowOf e).length = min 4 (e.sent.length - e.there) := by
  unfold windowOf
  rw [List.length_take, List.length_drop]
theorem windowOf_at (e : E) (i : Nat) (h1 : e.there ≤ i) (h2 : i < e.there + 4) (h3 : i < e.sent.length) : (windowOf e)[i - e.there]? = some (e.sent[i]'h3) := by
  unfold windowOf
  rw [List.getElem?_take, if_pos (by omega), List.getElem?_drop, show e.there + (i - e.there) = i by omega, List.getElem?_eq_getElem h3]
theorem wrap_succ {i : Nat} (h : i ≤ 100000000) : wrap64 ((i : Int) + 1) = ((i + 1 : Nat) : Int) := by unfold wrap64; omega
structure Mv where
  what : Int
  who : Bool
  at_ : Int
  data : List Int
structure Pr where
  a : E
  b : E
  l : List (Bool × S24)
  s : List (List Int)
  t : List (List Int)
def addL (l : List (Bool × S24)) (f : Bool) (xs : List S24) : List (Bool × S24) := l ++ (xs.take (200 - l.length)).map (fun x => (f, x))
def outL (l : List (Bool × S24)) (m : Mv) (k : Nat) : List (Bool × S24) := if m.what = 4 then l else l.eraseIdx k
def moved (p : Pr) (m : Mv) (k : Nat) (x : Bool × S24) : Pr :=
  if m.what = 5 then { p with l := outL p.l m k } else if x.1 = true then { p with a := takeE p.a x.2, l := outL p.l m k } else { p with b := takeE p.b x.2, l := outL p.l m k }
def pstep (p : Pr) (m : Mv) : Pr :=
  if m.what < 2 then
    (if m.who = true then (if sendOk p.a m.data = true then { p with a := sendE p.a m.data, s := p.s ++ [m.data] } else p)
     else (if sendOk p.b m.data = true then { p with b := sendE p.b m.data, t := p.t ++ [m.data] } else p))
  else if m.what = 2 then { p with l := addL p.l (!m.who) (tickE (if m.who = true then p.a else p.b)) }
  else if p.l.length = 0 ∨ m.at_ < 0 then p
  else match p.l[(m.at_ % (p.l.length : Int)).toNat]? with
    | none => p
    | some x => moved p m (m.at_ % (p.l.length : Int)).toNat x
/-- A frame that was sent by an end that is e now. -/
structure Flies (e : E) (x : S24) : Prop where
  ack : 0 ≤ x.f1 ∧ x.f1 ≤ (e.came.length : Int)
  data : x.f2 = true → ∃ k : Nat, x.f3 = (k : Int) ∧ e.sent[k]? = some x.f4
theorem Flies.grow {e e' : E} {x : S24} (h : Flies e x) (hs : e.sent <+: e'.sent) (hc : e.came.length ≤ e'.came.length) : Flies e' x := by
  refine ⟨⟨h.ack.1, by have := h.ack.2; omega⟩, fun hx => ?_⟩
  obtain ⟨k, h1, h2⟩ := h.data hx
  refine ⟨k, h1, ?_⟩
  obtain ⟨r, hr⟩ := hs
  have hk := (List.getElem?_eq_some_iff.1 h2).1
  rw [← hr, List.getElem?_append_left hk]
  exact h2
theorem tick_flies (e : E) (x : S24) (hx : x ∈ tickE e) : Flies e x := by
  unfold tickE at hx
  split at hx
  · rw [List.mem_iff_getElem?] at hx
    obtain ⟨i, hi⟩ := hx
    rw [List.getElem?_mapIdx] at hi
    cases hw : (windowOf e)[i]? with
    | none => rw [hw] at hi; cases hi
    | some l =>
      rw [hw] at hi
      obtain rfl := Option.some.inj hi
      refine ⟨⟨by show (0 : Int) ≤ (e.came.length : Int); omega, Int.le_refl _⟩, fun _ => ⟨e.there + i, rfl, ?_⟩⟩
      unfold windowOf at hw
      rw [List.getElem?_take] at hw
      split at hw
      · rw [List.getElem?_drop] at hw
        exact hw
      · cases hw
  · rw [List.mem_singleton] at hx
    subst hx
    exact ⟨⟨by show (0 : Int) ≤ (e.came.length : Int); omega, Int.le_refl _⟩, fun h => by cases h⟩
section
variable {e : E} {x : S24}
theorem take_sent : (takeE e x).sent = e.sent := by unfold takeE; split <;> rfl
theorem take_ep : (takeE e x).ep = e.ep := by unfold takeE; split <;> rfl
theorem take_mono : e.came <+: (takeE e x).came := by
  unfold takeE
  split
  · show e.came <+: (if _ then _ else _ : List (List Int))
    split
    · exact List.prefix_append _ _
    · exact List.prefix_refl _
  · exact List.prefix_refl _
end
theorem take_there {r e : E} {x : S24} (h : Flies e x) (ht : r.there ≤ e.came.length) : (takeE r x).there ≤ e.came.length := by
  unfold takeE
  split
  · show max r.there x.f1.toNat ≤ _
    have := h.ack
    omega
  · exact ht
theorem take_came {r e : E} {x : S24} (h : Flies e x) (hc : r.came <+: e.sent) : (takeE r x).came <+: e.sent := by
  unfold takeE
  split
  · show (if _ then _ else _ : List (List Int)) <+: _
    split
    · rename_i hx
      obtain ⟨k, h1, h2⟩ := h.data hx.1
      have hk : k = r.came.length := by have := hx.2; omega
      subst hk
      obtain ⟨q, hq⟩ := hc
      rw [← hq, List.getElem?_append_right (Nat.le_refl _), Nat.sub_self] at h2
      cases q with
      | nil => cases h2
      | cons y q =>
        obtain rfl := Option.some.inj h2
        exact ⟨q, by rw [← hq]; simp⟩
    · exact hc
  · exact hc
structure Inv (ep : Int) (p : Pr) : Prop where
  sa : p.a.sent = p.s
  sb : p.b.sent = p.t
  ea : p.a.ep = ep
  eb : p.b.ep = ep
  ca : p.a.came <+: p.b.sent
  cb : p.b.came <+: p.a.sent
  ta : p.a.there ≤ p.b.came.length
  tb : p.b.there ≤ p.a.came.length
  fl : ∀ x ∈ p.l, (x.1 = true → Flies p.b x.2) ∧ (x.1 = false → Flies p.a x.2)
theorem send_sent {e : E} {d : List Int} (h : sendOk e d = true) : sendE e d = { e with sent := e.sent ++ [d] } := by unfold sendE; rw [if_pos h]
theorem Inv.step {ep : Int} {p : Pr} (h : Inv ep p) (m : Mv) : Inv ep (pstep p m) := by
  unfold pstep
  split
  · split
    · split
      · rename_i hok
        have e1 := send_sent hok
        refine ⟨?_, h.sb, ?_, h.eb, ?_, ?_, ?_, ?_, ?_⟩
        · show (sendE p.a m.data).sent = _
          rw [e1, ← h.sa]
        · show (sendE p.a m.data).ep = ep
          rw [e1]; exact h.ea
        · show (sendE p.a m.data).came <+: _
          rw [e1]; exact h.ca
        · show _ <+: (sendE p.a m.data).sent
          rw [e1]; exact h.cb.trans (List.prefix_append _ _)
        · show (sendE p.a m.data).there ≤ _
          rw [e1]; exact h.ta
        · show _ ≤ (sendE p.a m.data).came.length
          rw [e1]; exact h.tb
        · intro x hx
          refine ⟨(h.fl x hx).1, fun hf => ((h.fl x hx).2 hf).grow ?_ ?_⟩
          · show _ <+: (sendE p.a m.data).sent
            rw [e1]; exact List.prefix_append _ _
          · show _ ≤ (sendE p.a m.data).came.length
            rw [e1]; exact Nat.le_refl _
      · exact h
    · split
      · rename_i hok
        have e1 := send_sent hok
        refine ⟨h.sa, ?_, h.ea, ?_, ?_, ?_, ?_, ?_, ?_⟩
        · show (sendE p.b m.data).sent = _
          rw [e1, ← h.sb]
        · show (sendE p.b m.data).ep = ep
          rw [e1]; exact h.eb
        · show _ <+: (sendE p.b m.data).sent
          rw [e1]; exact h.ca.trans (List.prefix_append _ _)
        · show (sendE p.b m.data).came <+: _
          rw [e1]; exact h.cb
        · show _ ≤ (sendE p.b m.data).came.length
          rw [e1]; exact h.ta
        · show (sendE p.b m.data).there ≤ _
          rw [e1]; exact h.tb
        · intro x hx
          refine ⟨fun hf => ((h.fl x hx).1 hf).grow ?_ ?_, (h.fl x hx).2⟩
          · show _ <+: (sendE p.b m.data).sent
            rw [e1]; exact List.prefix_append _ _
          · show _ ≤ (sendE p.b m.data).came.length
            rw [e1]; exact Nat.le_refl _
      · exact h
  · split
    · refine ⟨h.sa, h.sb, h.ea, h.eb, h.ca, h.cb, h.ta, h.tb, fun x hx => ?_⟩
      have hx' : x ∈ addL p.l (!m.who) (tickE (if m.who = true then p.a else p.b)) := hx
      unfold addL at hx'
      rw [List.mem_append] at hx'
      rcases hx' with hx' | hx'
      · exact h.fl x hx'
      · rw [List.mem_map] at hx'
        obtain ⟨y, hy, rfl⟩ := hx'
        have hy2 := List.mem_of_mem_take hy
        cases hw : m.who with
        | true =>
          rw [hw, if_pos rfl] at hy2
          exact ⟨fun h => by simp at h, fun _ => tick_flies _ _ hy2⟩
        | false =>
          rw [hw, if_neg (by simp)] at hy2
          exact ⟨fun _ => tick_flies _ _ hy2, fun h => by simp at h⟩
    · split
      · exact h
      · split
        · exact h
        · rename_i x hx
          have hmem : x ∈ p.l := List.mem_of_getElem? hx
          have hout : ∀ y ∈ outL p.l m (m.at_ % (p.l.length : Int)).toNat, y ∈ p.l := by
            intro y hy
            unfold outL at hy
            split at hy
            · exact hy
            · exact List.mem_of_mem_eraseIdx hy
          unfold moved
          split
          · exact ⟨h.sa, h.sb, h.ea, h.eb, h.ca, h.cb, h.ta, h.tb, fun y hy => h.fl y (hout y hy)⟩
          · split
            · rename_i hf
              have hfl := (h.fl x hmem).1 hf
              refine ⟨take_sent.trans h.sa, h.sb, take_ep.trans h.ea, h.eb, take_came hfl h.ca, ?_, take_there hfl h.ta, ?_, fun y hy => ⟨(h.fl y (hout y hy)).1, fun hy2 => ((h.fl y (hout y hy)).2 hy2).grow ?_ ?_⟩⟩
              · show _ <+: (takeE p.a x.2).sent
                rw [take_sent]; exact h.cb
              · exact Nat.le_trans h.tb take_mono.length_le
              · show _ <+: (takeE p.a x.2).sent
                rw [take_sent]; exact List.prefix_refl _
              · exact take_mono.length_le
            · rename_i hf
              have hfl := (h.fl x hmem).2 (by simpa using hf)
              refine ⟨h.sa, take_sent.trans h.sb, h.ea, take_ep.trans h.eb, ?_, take_came hfl h.cb, ?_, take_there hfl h.tb, fun y hy => ⟨fun hy2 => ((h.fl y (hout y hy)).1 hy2).grow ?_ ?_, (h.fl y (hout y hy)).2⟩⟩
              · show _ <+: (takeE p.b x.2).sent
                rw [take_sent]; exact h.ca
              · exact Nat.le_trans h.ta take_mono.length_le
              · show _ <+: (takeE p.b x.2).sent
                rw [take_sent]; exact List.prefix_refl _
              · exact take_mono.length_le
theorem Inv.done {ep : Int} {p : Pr} (h : Inv ep p) (hd : p.a.there = p.a.sent.length) : p.b.came.length = p.s.length := by
  have h1 := h.ta
  have h2 := h.cb.length_le
  rw [← h.sa]
  omega
theorem Inv.done2 {ep : Int} {p : Pr} (h : Inv ep p) (hd : p.b.there = p.b.sent.length) : p.a.came.length = p.t.length := by
  have h1 := h.tb
  have h2 := h.ca.length_le
  rw [← h.sb]
  omega
theorem Inv.new (ep : Int) : Inv ep ⟨⟨ep, [], 0, []⟩, ⟨ep, [], 0, []⟩, [], [], []⟩ := ⟨rfl, rfl, rfl, rfl, List.prefix_refl _, List.prefix_refl _, Nat.le_refl _, Nat.le_refl _, fun x hx => by cases hx⟩
theorem okN_of {n : Nat} (h : n ≤ 1000) : okN (n : Int) = true := by unfold okN; exact decide_eq_true (by omega)
/-- The frames of a tick, taken one behind the other. -/
def takes (r : E) (l : List S24) : E := l.foldl takeE r
structure Good (ep : Int) (e : E) : Prop where
  eq : e.ep = ep
  okE : okEp ep = true
  s : e.sent.length ≤ 64
  big : ∀ l ∈ e.sent, l.length ≤ 32768
theorem takes_window {ep : Int} {r e : E} (hr : Good ep r) (he : Good ep e) (c0 : Nat) (hc : r.came = e.sent.take c0) (hc0 : c0 ≤ e.sent.length) (h1 : e.there ≤ c0) (h2 : r.there ≤ e.came.length) (h3 : e.came.length ≤ r.sent.length) (k : Nat) (hk : e.there + k ≤ e.sent.length) (hk4 : k ≤ 4) :
    takes r (((windowOf e).mapIdx (frameOf e)).take k) = { r with there := if k = 0 then r.there else e.came.length, came := e.sent.take (max c0 (e.there + k)) } := by
  induction k with
  | zero =>
    rw [show max c0 (e.there + 0) = c0 by omega]
    obtain ⟨a, b, c, d⟩ := r
    have hc' : d = e.sent.take c0 := hc
    rw [← hc']
    rfl
  | succ k ih =>
    have ih := ih (by omega) (by omega)
    have hlen : k < (windowOf e).length := by unfold windowOf; rw [List.length_take, List.length_drop]; omega
    have hkl : e.there + k < e.sent.length := by omega
    have hx : ((windowOf e).mapIdx (frameOf e))[k]? = some ⟨e.ep, (e.came.length : Int), true, ((e.there + k : Nat) : Int), e.sent[e.there + k]'hkl⟩ := by
      rw [List.getElem?_mapIdx, show (windowOf e)[k]? = some (e.sent[e.there + k]'hkl) from by have h := windowOf_at e (e.there + k) (by omega) (by omega) hkl; rwa [show e.there + k - e.there = k by omega] at h]
      rfl
    rw [List.take_add_one, hx]
    unfold takes at ih ⊢
    rw [List.foldl_append, ih]
    simp only [Option.toList_some, List.foldl_cons, List.foldl_nil]
    unfold takeE
    have hdl : (e.sent[e.there + k]'hkl).length ≤ 32768 := he.big _ (List.getElem_mem hkl)
    have hs := hr.s
    have hs2 := he.s
    have hok : okF ⟨e.ep, (e.came.length : Int), true, ((e.there + k : Nat) : Int), e.sent[e.there + k]'hkl⟩ = true := by
      show (okEp e.ep && okN ((e.came.length : Nat) : Int) && okN ((e.there + k : Nat) : Int) && decide ((e.sent[e.there + k]'hkl).length ≤ 32768) && (true || _)) = true
      rw [he.eq, he.okE, okN_of (by omega), okN_of (by omega), decide_eq_true hdl]
      rfl
    have htk : ∀ q1 q2, takeOk ⟨r.ep, r.sent, q1, q2⟩ ⟨e.ep, (e.came.length : Int), true, ((e.there + k : Nat) : Int), e.sent[e.there + k]'hkl⟩ = true := by
      intro q1 q2
      unfold takeOk
      rw [hok, decide_eq_true (show e.ep = r.ep from he.eq.trans hr.eq.symm), decide_eq_true (by show (e.came.length : Int) ≤ (r.sent.length : Int); omega)]
      rfl
    rw [if_pos (htk _ _)]
    simp only [true_and, Int.toNat_natCast, Nat.add_one_ne_zero, if_false]
    have hth : max (if k = 0 then r.there else e.came.length) e.came.length = e.came.length := by split <;> omega
    rw [hth]
    congr 1
    rw [List.length_take]
    by_cases hlt : e.there + k < c0
    · rw [if_neg (by omega), show max c0 (e.there + k) = max c0 (e.there + (k + 1)) by omega]
    · rw [if_pos (by omega), show max c0 (e.there + k) = e.there + k by omega, show max c0 (e.there + (k + 1)) = e.there + k + 1 by omega, List.take_add_one, List.getElem?_eq_getElem hkl]
      rfl
theorem takes_tick {ep : Int} {r e : E} (hr : Good ep r) (he : Good ep e) (c0 : Nat) (hc : r.came = e.sent.take c0) (hc0 : c0 ≤ e.sent.length) (h1 : e.there ≤ c0) (h2 : r.there ≤ e.came.length) (h3 : e.came.length ≤ r.sent.length) :
    takes r (tickE e) = { r with there := e.came.length, came := e.sent.take (max c0 (min (e.there + 4) e.sent.length)) } := by
  unfold tickE
  split
  · rename_i hlt
    obtain ⟨k, hk⟩ : ∃ k, k = min 4 (e.sent.length - e.there) := ⟨_, rfl⟩
    have hw := takes_window hr he c0 hc hc0 h1 h2 h3 k (by omega) (by omega)
    rw [List.take_of_length_le (by rw [List.length_mapIdx, windowOf_length]; omega), if_neg (by omega), show max c0 (e.there + k) = max c0 (min (e.there + 4) e.sent.length) by omega] at hw
    exact hw
  · rename_i hge
    unfold takes
    simp only [List.foldl_cons, List.foldl_nil]
    have hs := hr.s
    have hok : takeOk r ⟨e.ep, (e.came.length : Int), false, 0, []⟩ = true := by
      show (okEp e.ep && okN ((e.came.length : Nat) : Int) && okN ((0 : Nat) : Int) && decide (([] : List Int).length ≤ 32768) && (false || (decide ((0 : Int) = 0) && decide (([] : List Int).length = 0))) && decide (e.ep = r.ep) && decide ((e.came.length : Int) ≤ (r.sent.length : Int))) = true
      rw [he.eq, he.okE, okN_of (by omega), okN_of (by omega), decide_eq_true (show (ep : Int) = r.ep from hr.eq.symm), decide_eq_true (show (e.came.length : Int) ≤ (r.sent.length : Int) by omega)]
      rfl
    unfold takeE
    rw [if_pos hok]
    simp only [Bool.false_eq_true, false_and, if_false, Int.toNat_natCast]
    rw [show max r.there e.came.length = e.came.length by omega, show max c0 (min (e.there + 4) e.sent.length) = c0 by omega, ← hc]
/-- One round: a's tick comes at b, then b's at a. -/
def round_ (ab : E × E) : E × E := (takes ab.1 (tickE (takes ab.2 (tickE ab.1))), takes ab.2 (tickE ab.1))
def rounds_ : Nat → E × E → E × E
  | 0, ab => ab
  | k + 1, ab => rounds_ k (round_ ab)
/-- What holds between rounds: k windows, at least, are there. -/
structure Two_ (ep : Int) (s t : List (List Int)) (ab : E × E) (k : Nat) : Prop where
  ga : Good ep ab.1
  gb : Good ep ab.2
  sa : ab.1.sent = s
  sb : ab.2.sent = t
  ca : ab.1.came = t.take ab.1.came.length
  cb : ab.2.came = s.take ab.2.came.length
  la : ab.1.came.length ≤ t.length
  lb : ab.2.came.length ≤ s.length
  ta : ab.1.there ≤ ab.2.came.length
  tb : ab.2.there ≤ ab.1.came.length
  ka : min (4 * k) t.length ≤ ab.1.came.length
  kb : min (4 * k) s.length ≤ ab.1.there
theorem Two_.round {ep : Int} {s t : List (List Int)} {ab : E × E} {k : Nat} (h : Two_ ep s t ab k) : Two_ ep s t (round_ ab) (k + 1) := by
  obtain ⟨a, b⟩ := ab
  obtain ⟨ga, gb, sa, sb, ca, cb, la, lb, ta, tb, ka, kb⟩ := h
  simp only at ga gb sa sb ca cb la lb ta tb ka kb
  have e1 := takes_tick gb ga b.came.length (by rw [sa]; exact cb) (by rw [sa]; exact lb) ta tb (by rw [sb]; exact la)
  obtain ⟨b1, hb1⟩ : ∃ b1, b1 = takes b (tickE a) := ⟨_, rfl⟩
  rw [← hb1, sa] at e1
  have hbc : b1.came.length = max b.came.length (min (a.there + 4) s.length) := by rw [e1]; show (s.take _).length = _; rw [List.length_take]; omega
  have hbs : b1.sent = t := by rw [e1]; exact sb
  have hbt : b1.there = a.came.length := by rw [e1]
  have hbe : b1.ep = ep := by rw [e1]; exact gb.eq
  have hbcc : b1.came = s.take b1.came.length := by rw [hbc, e1]
  have gb1 : Good ep b1 := ⟨hbe, gb.okE, by rw [hbs, ← sb]; exact gb.s, by rw [hbs, ← sb]; exact gb.big⟩
  have e2 := takes_tick ga gb1 a.came.length (by rw [hbs]; exact ca) (by rw [hbs]; exact la) (by omega) (by omega) (by rw [sa]; omega)
  obtain ⟨a1, ha1⟩ : ∃ a1, a1 = takes a (tickE b1) := ⟨_, rfl⟩
  rw [← ha1, hbs] at e2
  have hac : a1.came.length = max a.came.length (min (b1.there + 4) t.length) := by rw [e2]; show (t.take _).length = _; rw [List.length_take]; omega
  have has : a1.sent = s := by rw [e2]; exact sa
  have hat : a1.there = b1.came.length := by rw [e2]
  have hr : round_ (a, b) = (a1, b1) := by
    unfold round_
    simp only
    rw [← hb1, ← ha1]
  rw [hr]
  refine ⟨⟨by rw [e2]; exact ga.eq, ga.okE, by show a1.sent.length ≤ 64; rw [has, ← sa]; exact ga.s, by show ∀ l ∈ a1.sent, _; rw [has, ← sa]; exact ga.big⟩, gb1, has, hbs, by show a1.came = _; rw [hac, e2], hbcc, ?_, ?_, ?_, ?_, ?_, ?_⟩
  · show a1.came.length ≤ _; omega
  · show b1.came.length ≤ _; omega
  · show a1.there ≤ b1.came.length; omega
  · show b1.there ≤ a1.came.length; omega
  · show _ ≤ a1.came.length; omega
  · show _ ≤ a1.there; omega
theorem Two_.rounds {ep : Int} {s t : List (List Int)} : ∀ (n : Nat) {ab : E × E} {k : Nat}, Two_ ep s t ab k → Two_ ep s t (rounds_ n ab) (k + n)
  | 0, ab, k, h => h
  | n + 1, ab, k, h => by
    have := Two_.rounds n h.round
    rw [show k + 1 + n = k + (n + 1) by omega] at this
    exact this
/-- All is there. -/
theorem Two_.end_ {ep : Int} {s t : List (List Int)} {ab : E × E} {k : Nat} (h : Two_ ep s t ab k) (hs : s.length ≤ 4 * k) (ht : t.length ≤ 4 * k) :
    ab.1.came = t ∧ (takes ab.2 (tickE ab.1)).came = s ∧ ab.1.there = ab.1.sent.length ∧ (takes ab.2 (tickE ab.1)).there = (takes ab.2 (tickE ab.1)).sent.length := by
  obtain ⟨a, b⟩ := ab
  obtain ⟨ga, gb, sa, sb, ca, cb, la, lb, ta, tb, ka, kb⟩ := h
  simp only at ga gb sa sb ca cb la lb ta tb ka kb ⊢
  have e1 := takes_tick gb ga b.came.length (by rw [sa]; exact cb) (by rw [sa]; exact lb) ta tb (by rw [sb]; exact la)
  rw [e1]
  refine ⟨?_, ?_, ?_, ?_⟩
  · rw [ca, List.take_of_length_le (by omega)]
  · show a.sent.take _ = s
    rw [sa, List.take_of_length_le (by omega)]
  · rw [sa]; omega
  · show a.came.length = b.sent.length
    rw [sb]; omega
theorem Inv.two {ep : Int} {p : Pr} (h : Inv ep p) (hep : okEp ep = true) (ha : p.a.sent.length ≤ 64) (hb : p.b.sent.length ≤ 64) (hab : ∀ l ∈ p.a.sent, l.length ≤ 32768) (hbb : ∀ l ∈ p.b.sent, l.length ≤ 32768) : Two_ ep p.s p.t (p.a, p.b) 0 :=
  ⟨⟨h.ea, hep, ha, hab⟩, ⟨h.eb, hep, hb, hbb⟩, h.sa, h.sb, by show p.a.came = _; rw [← h.sb]; exact List.prefix_iff_eq_take.1 h.ca, by show p.b.came = _; rw [← h.sa]; exact List.prefix_iff_eq_take.1 h.cb, by rw [← h.sb]; exact h.ca.length_le, by rw [← h.sa]; exact h.cb.length_le, h.ta, h.tb, by omega, by omega⟩
end Go.Proofs.YthfgkkpibkkiaaaDoor
