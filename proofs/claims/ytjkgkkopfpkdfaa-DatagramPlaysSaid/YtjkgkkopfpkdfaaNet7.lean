import Derived.Test.YtjkgkkopfpkdfaaNet6
set_option linter.unusedVariables false
set_option linter.unusedSimpArgs false
namespace Go.Proofs.Ytjkgkkopfpkdfaa
open Go.RowKit Go.Conc Go.Proofs.YtjkgkkopfpkdfaaW.PrintWords Go.Proofs.YtjkgkkopfpkdfaaW.PrintLast

/-- A net with the packets L in it. -/
structure NetOk (w : World) (nb c : Nat) (vals : List Value) (L : List Pkt) : Prop where
  net : NetAt w nb c vals
  lt : c < nb
  pk : PkL w (nb + 1) vals L
  size : ∀ p ∈ L, p.d.length ≤ 140737488351232

theorem NetOk.below {w w' : World} {nb c : Nat} {vals : List Value} {L : List Pkt} (h : NetOk w nb c vals L) (hb : Below w.heap.size w w') : NetOk w' nb c vals L :=
  ⟨h.net.below hb, h.lt, h.pk.step (fun _ _ k _ _ hl => hb.block k hl), h.size⟩
/-- What it stands on is left alone. -/
theorem NetOk.step {w w' : World} {nb c : Nat} {vals : List Value} {L : List Pkt} (h : NetOk w nb c vals L) (h1 : w'.heap[nb]? = w.heap[nb]?) (h2 : w'.heap[c]? = w.heap[c]?)
    (h3 : ∀ v ∈ vals, ∀ k, nb + 1 ≤ k → pkB v = some k → k < w.heap.size → w'.heap[k]? = w.heap[k]?) : NetOk w' nb c vals L :=
  ⟨⟨h1.trans h.net.1, let ⟨s, r, hc⟩ := h.net.2; ⟨s, r, h2.trans hc⟩⟩, h.lt, h.pk.step h3, h.size⟩

theorem newR (w : World) : Calls Try.prog 8 #[] w fun e w' => ∃ nb c, e = .returned (.pointer (some ⟨nb, 0, none⟩)) ∧ NetOk w' nb c [] [] ∧ w.heap.size ≤ c ∧ Below w.heap.size w w' := by
  refine (new_any w).mono ?_
  rintro e w' ⟨nb, c, rfl, h1, h2, h3, h4⟩
  exact ⟨nb, c, rfl, ⟨h1, h2, PkL.nil _ _, by simp⟩, h3, h4⟩

theorem PkL.snoc {w' : World} {base : Nat} {vals : List Value} {L : List Pkt} {v : Value} {p : Pkt} (h : PkL w' base vals L) (hv : PkAt w' base v p) (hne : ∀ u ∈ vals, ∀ k, pkB u = some k → pkB v ≠ some k) : PkL w' base (vals ++ [v]) (L ++ [p]) := by
  refine ⟨by simp [h.len], fun i u q hu hq => ?_, ?_⟩
  · rcases Nat.lt_or_ge i vals.length with hi | hi
    · rw [List.getElem?_append_left hi] at hu
      rw [List.getElem?_append_left (by rw [← h.len]; exact hi)] at hq
      exact h.at_ i u q hu hq
    · have h0 : i = vals.length := by have := (List.getElem?_eq_some_iff.1 hu).1; simp at this; omega
      subst h0
      rw [List.getElem?_append_right (Nat.le_refl _)] at hu
      rw [h.len, List.getElem?_append_right (Nat.le_refl _)] at hq
      simp at hu hq
      subst hu hq
      exact hv
  · rw [List.pairwise_append]
    refine ⟨h.apart, by simp, fun u hu x hx k hk => ?_⟩
    simp at hx
    subst hx
    exact hne u hu k hk

theorem postR (f t : Int) (A : Option Addr) (cp : Nat) (l : List Int) (nb c : Nat) (vals : List Value) (L : List Pkt) (w : World) (hn : NetOk w nb c vals L)
    (h : Kd.C (Kd.int .u8) w A l.length l) (hc : l.length ≤ cp) (hl : l.length ≤ 140737488351232) (hv : L.length < 256) :
    Calls Try.prog 15 #[.pointer (some ⟨nb, 0, none⟩), .agg #[.int .i64 f, .int .i64 t, .slice A l.length cp]] w fun e w' =>
      ∃ v, e = .returned (.bool true) ∧ NetOk w' nb c (vals ++ [v]) (L ++ [⟨f, t, l⟩]) ∧ w.grownBy w' (some c) := by
  refine (post_room f t A cp l nb c vals w hn.net h hc hl (by rw [hn.pk.len]; exact hv)).mono ?_
  rintro e w' ⟨v, rfl, h1, h2, h3⟩
  have hlt := hn.net.lt
  have hat : PkAt w' w.heap.size (.agg #[.int .i64 f, .int .i64 t, v]) ⟨f, t, l⟩ := ⟨v, rfl, h2⟩
  refine ⟨_, rfl, ⟨h1, hn.lt, (hn.pk.grown h3 (by have := hn.lt; omega)).snoc (hat.lower (by omega)) ?_, ?_⟩, h3⟩
  · intro u hu k hk e
    obtain ⟨i, hi⟩ := List.mem_iff_getElem?.1 hu
    obtain ⟨p, _, hp⟩ := hn.pk.get hi
    have h4 := (hp.block k hk).2
    have h5 := (hat.block k e).1
    omega
  · intro p hp
    rcases List.mem_append.1 hp with hp | hp
    · exact hn.size p hp
    · simp at hp
      subst hp
      exact hl

theorem postF (f t : Int) (A : Option Addr) (cp : Nat) (l : List Int) (nb c : Nat) (vals : List Value) (L : List Pkt) (w : World) (hn : NetOk w nb c vals L)
    (h : Kd.C (Kd.int .u8) w A l.length l) (hc : l.length ≤ cp) (hl : l.length ≤ 140737488351232) (hv : 256 ≤ L.length) :
    Calls Try.prog 15 #[.pointer (some ⟨nb, 0, none⟩), .agg #[.int .i64 f, .int .i64 t, .slice A l.length cp]] w fun e w' =>
      e = .returned (.bool false) ∧ NetOk w' nb c vals L ∧ w.grownBy w' (some c) := by
  refine (post_full f t A cp l nb c vals w hn.net h hc hl (by rw [hn.pk.len]; exact hv)).mono ?_
  rintro e w' ⟨rfl, h1⟩
  exact ⟨rfl, hn.below h1, gb_below h1 _⟩

theorem PkL.erase {w : World} {base : Nat} {vals : List Value} {L : List Pkt} (h : PkL w base vals L) (n : Nat) : PkL w base (vals.eraseIdx n) (L.eraseIdx n) := by
  refine ⟨by simp only [List.length_eraseIdx, h.len], fun i u q hu hq => ?_, h.apart.sublist (List.eraseIdx_sublist _ _)⟩
  rw [List.getElem?_eraseIdx] at hu hq
  split at hu
  · rename_i hi
    rw [if_pos hi] at hq
    exact h.at_ _ u q hu hq
  · rename_i hi
    rw [if_neg hi] at hq
    exact h.at_ _ u q hu hq

theorem apart_erase {vals : List Value} {n : Nat} {v : Value} (h : vals.Pairwise fun u v => ∀ k, pkB u = some k → pkB v ≠ some k) (hv : vals[n]? = some v) :
    ∀ u ∈ vals.eraseIdx n, ∀ k, pkB v = some k → pkB u ≠ some k := by
  intro u hu k hk hk'
  obtain ⟨i, hi⟩ := List.mem_iff_getElem?.1 hu
  rw [List.getElem?_eraseIdx] at hi
  have hp := List.pairwise_iff_getElem.1 h
  obtain ⟨hn, hv'⟩ := List.getElem?_eq_some_iff.1 hv
  split at hi
  · rename_i hlt
    obtain ⟨hn2, hv2⟩ := List.getElem?_eq_some_iff.1 hi
    exact hp i n hn2 hn (by omega) k (by rw [hv2]; exact hk') (by rw [hv']; exact hk)
  · rename_i hlt
    obtain ⟨hn2, hv2⟩ := List.getElem?_eq_some_iff.1 hi
    exact hp n (i + 1) hn hn2 (by omega) k (by rw [hv']; exact hk) (by rw [hv2]; exact hk')

theorem takeR (nb c : Nat) (vals : List Value) (L : List Pkt) (n : Nat) (p : Pkt) (w : World) (hn : NetOk w nb c vals L) (hl : L.length ≤ 256) (hp : L[n]? = some p) :
    Calls Try.prog 10 #[.pointer (some ⟨nb, 0, none⟩), .int .i64 n] w fun e w' =>
      ∃ A cp, e = .returned (.tuple #[.agg #[.int .i64 p.f, .int .i64 p.t, .slice A p.d.length cp], .bool true]) ∧ NetOk w' nb c (vals.eraseIdx n) (L.eraseIdx n) ∧
        PkAt w' (nb + 1) (.agg #[.int .i64 p.f, .int .i64 p.t, .slice A p.d.length cp]) p ∧ p.d.length ≤ cp ∧ Kd.C (Kd.int .u8) w' A p.d.length p.d ∧
        (∀ u ∈ vals.eraseIdx n, ∀ k, pkB (.agg #[.int .i64 p.f, .int .i64 p.t, .slice A p.d.length cp]) = some k → pkB u ≠ some k) ∧ w.grownBy w' (some c) := by
  have hnl : n < L.length := (List.getElem?_eq_some_iff.1 hp).1
  have hnv : n < vals.length := by rw [hn.pk.len]; exact hnl
  have hv : vals[n]? = some vals[n] := List.getElem?_eq_getElem hnv
  have hat := hn.pk.at_ n _ p hv hp
  obtain ⟨A, cp, he, _, _⟩ := hat.reads
  rw [he] at hv hat
  refine (take_in nb c vals n p.f p.t A p.d.length cp w hn.net (by rw [hn.pk.len]; exact hl) hn.pk.isAgg hv).mono ?_
  rintro e w' ⟨rfl, h1, h2⟩
  have hg := hn.pk.grown h2 (by have := hn.lt; omega)
  have hat' := hg.at_ n _ p hv hp
  obtain ⟨A', cp', he', hl', hr'⟩ := hat'.reads
  simp only [Value.agg.injEq, Array.mk.injEq, List.cons.injEq, true_and, Value.slice.injEq, and_true] at he'
  obtain ⟨rfl, rfl⟩ := he'
  exact ⟨A, cp, rfl, ⟨h1, hn.lt, hg.erase n, fun q hq => hn.size q ((List.eraseIdx_sublist _ _).subset hq)⟩, hat', hl', hr', apart_erase hn.pk.apart hv, h2⟩

theorem takeN (nb c : Nat) (vals : List Value) (L : List Pkt) (n : Int) (w : World) (hn : NetOk w nb c vals L) (hout : ¬ (0 ≤ n ∧ n < L.length)) :
    Calls Try.prog 10 #[.pointer (some ⟨nb, 0, none⟩), .int .i64 n] w fun e w' =>
      e = .returned (.tuple #[.agg #[.int .i64 0, .int .i64 0, .slice none 0 0], .bool false]) ∧ NetOk w' nb c vals L ∧ w.grownBy w' (some c) := by
  refine (take_out nb c vals n w hn.net (by rw [hn.pk.len]; exact hout)).mono ?_
  rintro e w' ⟨rfl, h1⟩
  exact ⟨rfl, hn.below h1, gb_below h1 _⟩

theorem doubleR (nb c : Nat) (vals : List Value) (L : List Pkt) (n : Nat) (p : Pkt) (w : World) (hn : NetOk w nb c vals L) (hl : L.length < 256) (hp : L[n]? = some p) :
    Calls Try.prog 13 #[.pointer (some ⟨nb, 0, none⟩), .int .i64 n] w fun e w' =>
      ∃ v, e = .returned (.bool true) ∧ NetOk w' nb c (vals ++ [v]) (L ++ [p]) ∧ w.grownBy w' (some c) := by
  refine (double_in nb c vals L n p w hn.net hn.lt hn.pk (by omega) hn.size hp).mono ?_
  rintro e w' ⟨h, _⟩
  obtain ⟨v, rfl, h1, hat, h3⟩ := h hl
  have hlt := hn.net.lt
  refine ⟨_, rfl, ⟨h1, hn.lt, (hn.pk.grown h3 (by have := hn.lt; omega)).snoc (hat.lower (by omega)) ?_, ?_⟩, h3⟩
  · intro u hu k hk e
    obtain ⟨i, hi⟩ := List.mem_iff_getElem?.1 hu
    obtain ⟨p, _, hp⟩ := hn.pk.get hi
    have h4 := (hp.block k hk).2
    have h5 := (hat.block k e).1
    omega
  · intro q hq
    rcases List.mem_append.1 hq with hq | hq
    · exact hn.size q hq
    · simp at hq
      subst hq
      exact hn.size q (List.mem_of_getElem? hp)

theorem doubleF (nb c : Nat) (vals : List Value) (L : List Pkt) (n : Int) (w : World) (hn : NetOk w nb c vals L) (hl : L.length ≤ 256) (hout : ¬ (0 ≤ n ∧ n < L.length ∧ L.length < 256)) :
    Calls Try.prog 13 #[.pointer (some ⟨nb, 0, none⟩), .int .i64 n] w fun e w' =>
      e = .returned (.bool false) ∧ NetOk w' nb c vals L ∧ w.grownBy w' (some c) := by
  by_cases hin : 0 ≤ n ∧ n < L.length
  · obtain ⟨m, rfl⟩ := Int.eq_ofNat_of_zero_le hin.1
    have hm : m < L.length := by omega
    refine (double_in nb c vals L m L[m] w hn.net hn.lt hn.pk hl hn.size (List.getElem?_eq_getElem hm)).mono ?_
    rintro e w' ⟨_, h⟩
    obtain ⟨rfl, h1, h2⟩ := h (by omega)
    exact ⟨rfl, ⟨h1, hn.lt, hn.pk.grown h2 (by have := hn.lt; omega), hn.size⟩, h2⟩
  · refine (double_out nb c vals n w hn.net (by rw [hn.pk.len]; exact hin)).mono ?_
    rintro e w' ⟨rfl, h1⟩
    exact ⟨rfl, hn.below h1, gb_below h1 _⟩

theorem allR (nb c : Nat) (vals : List Value) (L : List Pkt) (w : World) (hn : NetOk w nb c vals L) (hl : L.length ≤ 256) :
    Calls Try.prog 19 #[.pointer (some ⟨nb, 0, none⟩)] w fun e w' =>
      ∃ v, e = .returned v ∧ Kd.R kPkt 33 w' w.heap.size (fun _ => True) v L ∧ NetOk w' nb c vals L ∧ w.grownBy w' (some c) := by
  refine (all_any nb c vals L w hn.net hn.lt hn.pk hl hn.size).mono ?_
  rintro e w' ⟨v, rfl, h1, h2, h3⟩
  exact ⟨v, rfl, h1, ⟨h2, hn.lt, hn.pk.grown h3 (by have := hn.lt; omega), hn.size⟩, h3⟩

theorem manyR (nb c : Nat) (vals : List Value) (L : List Pkt) (w : World) (hn : NetOk w nb c vals L) :
    Calls Try.prog 17 #[.pointer (some ⟨nb, 0, none⟩)] w fun e w' => e = .returned (.int .i64 L.length) ∧ w = w' := by
  refine (many_any nb c vals w hn.net).mono ?_
  rintro e w' ⟨rfl, rfl⟩
  rw [hn.pk.len]
  exact ⟨rfl, rfl⟩
end Go.Proofs.Ytjkgkkopfpkdfaa
