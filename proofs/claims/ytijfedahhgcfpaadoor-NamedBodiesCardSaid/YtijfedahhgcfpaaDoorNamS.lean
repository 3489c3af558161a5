/- What the printed Great and Same of chapter 13 answer. Plain. -/
import Derived.Test.YtijfedahhgcfpaaDoorNg
import Derived.Test.YtijfedahhgcfpaaDoorPNamedBackx3
import Derived.Test.YtijfedahhgcfpaaDoorPNamedBackx4
set_option linter.unusedVariables false
set_option linter.unusedSimpArgs false
namespace Go.Proofs.YtijfedahhgcfpaaDoor
open Go.RowKit Go.Proofs.YtijfedahhgcfpaaDoorW.PrintWords Go.Proofs.YtijfedahhgcfpaaDoorW.PrintLast Go.Proofs.YtijfedahhgcfpaaDoorW.PrintMore Go.Proofs.YtijfedahhgcfpaaDoor.PNamedBack

theorem bytes_eqN (x y : ByteArray) : x.toList = y.toList ↔ x = y := by
  constructor
  · intro e
    rw [ByteArray.toList_eq, ByteArray.toList_eq] at e
    exact bytes_injN e
  · rintro rfl
    rfl
theorem wrap_succN (i : Nat) (h : i < 4611686018427387904) : wrap64 ((i : Int) + 1) = ((i + 1 : Nat) : Int) := by unfold wrap64; omega
theorem wrap_idN (z : Int) (h0 : 0 ≤ z) (h1 : z < 9223372036854775807) : wrap64 z = z := by unfold wrap64; omega
theorem rdOf_natN {α : Type} (d : α) (xs : List α) (i : Nat) (h : i < xs.length) : rdOf d xs (i : Int) = xs[i] := by
  unfold rdOf
  rw [Int.toNat_natCast, List.getD_eq_getElem?_getD, List.getElem?_eq_getElem h]
  rfl
theorem rd_natN (xs : List Prm) (i : Nat) (h : i < xs.length) : rd_T39 xs (i : Int) = xs[i] := by
  unfold rd_T39
  rw [Int.toNat_natCast, List.getD_eq_getElem?_getD, List.getElem?_eq_getElem h]
  rfl
theorem mn_facts (a : Nat) : 0 ≤ mn (a : Int) 4000 ∧ mn (a : Int) 4000 ≤ 4000 ∧ (mn (a : Int) 4000 < 4000 → a < 4000) := by
  unfold mn
  split <;> omega
def capN : Nat := 1000000000000000
/-! ## Great -/
theorem g8l1 (a0 : Int) (a1 a2 a3 : ByteArray) (a4 : Int) (l5 l6 : List ByteArray) (hl : l6.length ≤ capN) : ∀ (n i : Nat) (x : Int), i + n = l6.length → 0 ≤ x → x ≤ 4611686018427387904 →
    ∃ r, (∀ k, n < k → counterpanelaw08_Great.l1 k x (i : Int) a0 a1 a2 a3 a4 l5 l6 = some r) ∧ (r = false → x < 4000 ∧ ∀ s ∈ l6.drop i, s.size < 4000) := by
  intro n
  induction n with
  | zero =>
    intro i x hn h0 hx
    refine ⟨decide (x ≥ 4000), fun k hk => ?_, fun h => ?_⟩
    · obtain ⟨k, rfl⟩ : ∃ m, k = m + 1 := ⟨k - 1, by omega⟩
      rw [counterpanelaw08_Great.l1, if_neg (by omega)]
    · rw [decide_eq_false_iff_not] at h
      refine ⟨by omega, ?_⟩
      rw [List.drop_eq_nil_of_le (by omega)]
      intro s hs
      cases hs
  | succ n ih =>
    intro i x hn h0 hx
    have hi : i < l6.length := by omega
    by_cases hx4 : x < 4000
    · obtain ⟨m0, m1, m2⟩ := mn_facts (l6[i]'hi).size
      obtain ⟨r, h1, h2⟩ := ih (i + 1) (x + mn ((l6[i]'hi).size : Int) 4000) (by omega) (by omega) (by omega)
      refine ⟨r, fun k hk => ?_, fun h => ?_⟩
      · obtain ⟨k, rfl⟩ : ∃ m, k = m + 1 := ⟨k - 1, by omega⟩
        unfold capN at hl
        rw [counterpanelaw08_Great.l1, if_pos (by omega), if_pos hx4, if_pos (by omega), rdOf_natN _ _ _ hi, wrap_idN _ (by omega) (by omega), wrap_succN _ (by omega)]
        exact h1 k (by omega)
      · obtain ⟨h3, h4⟩ := h2 h
        refine ⟨hx4, ?_⟩
        rw [List.drop_eq_getElem_cons hi]
        intro s hs
        rcases List.mem_cons.1 hs with rfl | hs
        · exact m2 (by omega)
        · exact h4 s hs
    · refine ⟨true, fun k hk => ?_, fun h => by cases h⟩
      obtain ⟨k, rfl⟩ : ∃ m, k = m + 1 := ⟨k - 1, by omega⟩
      rw [counterpanelaw08_Great.l1, if_pos (by omega), if_neg hx4, decide_eq_true (by omega)]
theorem g8l0 (a0 : Int) (a1 a2 a3 : ByteArray) (a4 : Int) (l5 l6 : List ByteArray) (hl5 : l5.length ≤ capN) (hl : l6.length ≤ capN) : ∀ (n i : Nat) (x : Int), i + n = l5.length → 0 ≤ x → x ≤ 4611686018427387904 →
    ∃ r, (∀ k, n + l6.length + 2 < k → counterpanelaw08_Great.l0 k x (i : Int) a0 a1 a2 a3 a4 l5 l6 = some r) ∧ (r = false → x < 4000 ∧ (∀ s ∈ l5.drop i, s.size < 4000) ∧ ∀ s ∈ l6, s.size < 4000) := by
  intro n
  have tail : ∀ (x : Int), 0 ≤ x → x ≤ 4611686018427387904 → ∃ r, (∀ k, l6.length + 1 < k → counterpanelaw08_Great.j1 k x a0 a1 a2 a3 a4 l5 l6 = some r) ∧ (r = false → x < 4000 ∧ ∀ s ∈ l6, s.size < 4000) := by
    intro x h0 hx
    obtain ⟨r, h1, h2⟩ := g8l1 a0 a1 a2 a3 a4 l5 l6 hl l6.length 0 x (by omega) h0 hx
    refine ⟨r, fun k hk => ?_, h2⟩
    obtain ⟨k, rfl⟩ : ∃ m, k = m + 1 := ⟨k - 1, by omega⟩
    rw [counterpanelaw08_Great.j1]
    exact h1 k (by omega)
  induction n with
  | zero =>
    intro i x hn h0 hx
    obtain ⟨r, h1, h2⟩ := tail x h0 hx
    refine ⟨r, fun k hk => ?_, fun h => ?_⟩
    · obtain ⟨k, rfl⟩ : ∃ m, k = m + 1 := ⟨k - 1, by omega⟩
      rw [counterpanelaw08_Great.l0, if_neg (by omega)]
      exact h1 k (by omega)
    · obtain ⟨h3, h4⟩ := h2 h
      refine ⟨h3, ?_, h4⟩
      rw [List.drop_eq_nil_of_le (by omega)]
      intro s hs
      cases hs
  | succ n ih =>
    intro i x hn h0 hx
    have hi : i < l5.length := by omega
    by_cases hx4 : x < 4000
    · obtain ⟨m0, m1, m2⟩ := mn_facts (l5[i]'hi).size
      obtain ⟨r, h1, h2⟩ := ih (i + 1) (x + mn ((l5[i]'hi).size : Int) 4000) (by omega) (by omega) (by omega)
      refine ⟨r, fun k hk => ?_, fun h => ?_⟩
      · obtain ⟨k, rfl⟩ : ∃ m, k = m + 1 := ⟨k - 1, by omega⟩
        unfold capN at hl5
        rw [counterpanelaw08_Great.l0, if_pos (by omega), if_pos hx4, if_pos (by omega), rdOf_natN _ _ _ hi, wrap_idN _ (by omega) (by omega), wrap_succN _ (by omega)]
        exact h1 k (by omega)
      · obtain ⟨h3, h4, h5⟩ := h2 h
        refine ⟨hx4, ?_, h5⟩
        rw [List.drop_eq_getElem_cons hi]
        intro s hs
        rcases List.mem_cons.1 hs with rfl | hs
        · exact m2 (by omega)
        · exact h4 s hs
    · obtain ⟨r, h1, h2⟩ := tail x h0 hx
      refine ⟨r, fun k hk => ?_, fun h => absurd (h2 h).1 hx4⟩
      obtain ⟨k, rfl⟩ : ∃ m, k = m + 1 := ⟨k - 1, by omega⟩
      rw [counterpanelaw08_Great.l0, if_pos (by omega), if_neg hx4]
      exact h1 k (by omega)
theorem great8_f (x : Prm) (h5 : x.f5.length ≤ capN) (h6 : x.f6.length ≤ capN) : ∃ r, (∀ k, x.f5.length + x.f6.length + 2 < k → counterpanelaw08_Great.f k x.f0 x.f1 x.f2 x.f3 x.f4 x.f5 x.f6 = some r) ∧ (r = false → lessP x) := by
  obtain ⟨m10, m11, m12⟩ := mn_facts x.f1.size
  obtain ⟨m20, m21, m22⟩ := mn_facts x.f2.size
  obtain ⟨m30, m31, m32⟩ := mn_facts x.f3.size
  unfold capN at h5 h6
  obtain ⟨r, h1, h2⟩ := g8l0 x.f0 x.f1 x.f2 x.f3 x.f4 x.f5 x.f6 h5 h6 x.f5.length 0 (mn (x.f1.size : Int) 4000 + mn (x.f2.size : Int) 4000 + mn (x.f3.size : Int) 4000 + (x.f5.length : Int) + (x.f6.length : Int)) (by omega) (by omega) (by omega)
  refine ⟨r, fun k hk => ?_, fun h => ?_⟩
  · unfold counterpanelaw08_Great.f
    rw [wrap_idN (mn (x.f1.size : Int) 4000 + mn (x.f2.size : Int) 4000 + mn (x.f3.size : Int) 4000 + (x.f5.length : Int)) (by omega) (by omega), wrap_idN _ (by omega) (by omega)]
    exact h1 k hk
  · obtain ⟨h3, h4, h5⟩ := h2 h
    refine ⟨m12 (by omega), m22 (by omega), m32 (by omega), ⟨by omega, h4⟩, ⟨by omega, h5⟩⟩
theorem gll (l : List Prm) (hl : l.length ≤ 60) (hc : ∀ x ∈ l, x.f5.length ≤ capN ∧ x.f6.length ≤ capN) : ∀ (n i : Nat), i + n = l.length → ∃ r, (∃ k0, ∀ k, k0 < k → counterpanelaw08_GreatList.l0 k l (i : Int) = some r) ∧ (r = false → ∀ x ∈ l.drop i, lessP x) := by
  intro n
  induction n with
  | zero =>
    intro i hn
    refine ⟨false, ⟨0, fun k hk => ?_⟩, fun _ => ?_⟩
    · obtain ⟨k, rfl⟩ : ∃ m, k = m + 1 := ⟨k - 1, by omega⟩
      rw [counterpanelaw08_GreatList.l0, if_neg (by omega)]
    · rw [List.drop_eq_nil_of_le (by omega)]
      intro s hs
      cases hs
  | succ n ih =>
    intro i hn
    have hi : i < l.length := by omega
    obtain ⟨c5, c6⟩ := hc _ (List.getElem_mem hi)
    obtain ⟨r, h1, h2⟩ := great8_f (l[i]'hi) c5 c6
    obtain ⟨r2, ⟨k2, h3⟩, h4⟩ := ih (i + 1) (by omega)
    cases r with
    | true =>
      refine ⟨true, ⟨(l[i]'hi).f5.length + (l[i]'hi).f6.length + 3, fun k hk => ?_⟩, fun h => by cases h⟩
      obtain ⟨k, rfl⟩ : ∃ m, k = m + 1 := ⟨k - 1, by omega⟩
      rw [counterpanelaw08_GreatList.l0, if_pos (by omega), if_pos (by omega), rd_natN _ _ hi, h1 k (by omega)]
      rfl
    | false =>
      refine ⟨r2, ⟨(l[i]'hi).f5.length + (l[i]'hi).f6.length + 3 + k2, fun k hk => ?_⟩, fun h => ?_⟩
      · obtain ⟨k, rfl⟩ : ∃ m, k = m + 1 := ⟨k - 1, by omega⟩
        rw [counterpanelaw08_GreatList.l0, if_pos (by omega), if_pos (by omega), rd_natN _ _ hi, h1 k (by omega)]
        simp only [Option.bind_some, Bool.false_eq_true, if_false]
        rw [wrap_succN _ (by omega)]
        exact h3 k (by omega)
      · rw [List.drop_eq_getElem_cons hi]
        intro s hs
        rcases List.mem_cons.1 hs with rfl | hs
        · exact h2 rfl
        · exact h4 h s hs
theorem greatList_f (l : List Prm) (hc : ∀ x ∈ l, x.f5.length ≤ capN ∧ x.f6.length ≤ capN) : ∃ r, (∃ k0, ∀ k, k0 < k → counterpanelaw08_GreatList.f k l = some r) ∧ (r = false → l.length ≤ 60 ∧ ∀ x ∈ l, lessP x) := by
  by_cases h60 : l.length ≤ 60
  · obtain ⟨r, ⟨k0, h1⟩, h2⟩ := gll l h60 hc l.length 0 (by omega)
    refine ⟨r, ⟨k0, fun k hk => ?_⟩, fun h => ⟨h60, h2 h⟩⟩
    unfold counterpanelaw08_GreatList.f
    rw [if_neg (by omega)]
    exact h1 k hk
  · refine ⟨true, ⟨0, fun k hk => ?_⟩, fun h => by cases h⟩
    unfold counterpanelaw08_GreatList.f
    rw [if_pos (by omega)]
/-- A patch's rows are none too long for the machine. -/
structure CapPat (p : Pat) : Prop where
  deps : p.deps.length ≤ capN
  body : p.body.length ≤ capN
  each : ∀ x ∈ p.body, x.f5.length ≤ capN ∧ x.f6.length ≤ capN
theorem g13 (p : Pat) (hc : CapPat p) : ∀ (n i : Nat) (x : Int), i + n = p.deps.length → 0 ≤ x → x ≤ 4611686018427387904 →
    ∃ r, (∃ k0, ∀ k, k0 < k → counterpanelaw13_Great.l0 k x (i : Int) p.name p.deps p.body = some r) ∧ (r = false → x < 4000 ∧ (∀ s ∈ p.deps.drop i, s.size < 4000) ∧ p.body.length ≤ 60 ∧ ∀ x ∈ p.body, lessP x) := by
  obtain ⟨rl, ⟨kl, hl1⟩, hl2⟩ := greatList_f p.body hc.each
  have tail : ∀ x : Int, ∃ r, (∀ k, kl < k → (if x ≥ 4000 then some true else (counterpanelaw08_GreatList.f k p.body).bind fun t => some t) = some r) ∧ (r = false → x < 4000 ∧ p.body.length ≤ 60 ∧ ∀ x ∈ p.body, lessP x) := by
    intro x
    by_cases hx : x ≥ 4000
    · exact ⟨true, fun k hk => if_pos hx, fun h => by cases h⟩
    · refine ⟨rl, fun k hk => ?_, fun h => ⟨by omega, hl2 h⟩⟩
      rw [if_neg hx, hl1 k hk]
      rfl
  intro n
  induction n with
  | zero =>
    intro i x hn h0 hx
    obtain ⟨r, h1, h2⟩ := tail x
    refine ⟨r, ⟨kl + 1, fun k hk => ?_⟩, fun h => ?_⟩
    · obtain ⟨k, rfl⟩ : ∃ m, k = m + 1 := ⟨k - 1, by omega⟩
      rw [counterpanelaw13_Great.l0, if_neg (by omega)]
      exact h1 k (by omega)
    · obtain ⟨h3, h4⟩ := h2 h
      refine ⟨h3, ?_, h4⟩
      rw [List.drop_eq_nil_of_le (by omega)]
      intro s hs
      cases hs
  | succ n ih =>
    intro i x hn h0 hx
    have hi : i < p.deps.length := by omega
    by_cases hx4 : x < 4000
    · obtain ⟨m0, m1, m2⟩ := mn_facts (p.deps[i]'hi).size
      obtain ⟨r, ⟨k0, h1⟩, h2⟩ := ih (i + 1) (x + mn ((p.deps[i]'hi).size : Int) 4000) (by omega) (by omega) (by omega)
      refine ⟨r, ⟨k0 + 1, fun k hk => ?_⟩, fun h => ?_⟩
      · obtain ⟨k, rfl⟩ : ∃ m, k = m + 1 := ⟨k - 1, by omega⟩
        have hcd := hc.deps
        unfold capN at hcd
        rw [counterpanelaw13_Great.l0, if_pos (by omega), if_pos hx4, if_pos (by omega), rdOf_natN _ _ _ hi, wrap_idN _ (by omega) (by omega), wrap_succN _ (by omega)]
        exact h1 k (by omega)
      · obtain ⟨h3, h4, h5⟩ := h2 h
        refine ⟨hx4, ?_, h5⟩
        rw [List.drop_eq_getElem_cons hi]
        intro s hs
        rcases List.mem_cons.1 hs with rfl | hs
        · exact m2 (by omega)
        · exact h4 s hs
    · obtain ⟨r, h1, h2⟩ := tail x
      refine ⟨r, ⟨kl + 1, fun k hk => ?_⟩, fun h => absurd (h2 h).1 hx4⟩
      obtain ⟨k, rfl⟩ : ∃ m, k = m + 1 := ⟨k - 1, by omega⟩
      rw [counterpanelaw13_Great.l0, if_pos (by omega), if_neg hx4]
      exact h1 k (by omega)
theorem great13_f (p : Pat) (hc : CapPat p) : ∃ r k, counterpanelaw13_Great.f k p.name p.deps p.body = some r ∧ (r = false → LessPat p) := by
  obtain ⟨m0, m1, m2⟩ := mn_facts p.name.size
  have hcd := hc.deps
  unfold capN at hcd
  obtain ⟨r, ⟨k0, h1⟩, h2⟩ := g13 p hc p.deps.length 0 (mn (p.name.size : Int) 4000 + (p.deps.length : Int)) (by omega) (by omega) (by omega)
  refine ⟨r, k0 + 1, ?_, fun h => ?_⟩
  · unfold counterpanelaw13_Great.f
    rw [wrap_idN _ (by omega) (by omega)]
    exact h1 _ (by omega)
  · obtain ⟨h3, h4, h5, h6⟩ := h2 h
    exact ⟨m2 (by omega), ⟨by omega, h4⟩, h5, h6⟩
/-! ## Same -/
theorem same5_l (x y : List ByteArray) (hl : x.length = y.length) (hx : x.length ≤ capN) : ∀ (d i k : Nat), i + d = x.length → d < k → counterpaneref05_Same.l0 k x y (i : Int) = some (decide (x.drop i = y.drop i)) := by
  intro d
  unfold capN at hx
  induction d with
  | zero =>
    intro i k hd hk
    obtain ⟨k, rfl⟩ : ∃ m, k = m + 1 := ⟨k - 1, by omega⟩
    rw [counterpaneref05_Same.l0, if_neg (by omega), List.drop_eq_nil_of_le (by omega), List.drop_eq_nil_of_le (by omega), decide_eq_true rfl]
  | succ d ih =>
    intro i k hd hk
    obtain ⟨k, rfl⟩ : ∃ m, k = m + 1 := ⟨k - 1, by omega⟩
    have h1 : i < x.length := by omega
    have h2 : i < y.length := by omega
    rw [counterpaneref05_Same.l0, if_pos (by omega), if_pos (by omega), if_pos (by omega), rdOf_natN _ _ _ h1, rdOf_natN _ _ _ h2, wrap_succN _ (by omega), ih (i + 1) k (by omega) (by omega),
      List.drop_eq_getElem_cons h1, List.drop_eq_getElem_cons h2]
    by_cases e : x[i] = y[i]
    · rw [if_pos ((bytes_eqN _ _).2 e)]
      congr 1
      rw [decide_eq_decide, List.cons.injEq]
      exact ⟨fun h => ⟨e, h⟩, fun h => h.2⟩
    · rw [if_neg (fun h => e ((bytes_eqN _ _).1 h))]
      congr 1
      symm
      rw [decide_eq_false_iff_not, List.cons.injEq]
      exact fun h => e h.1
theorem same5_f (x y : List ByteArray) (hx : x.length ≤ capN) (k : Nat) (hk : x.length < k) : counterpaneref05_Same.f k x y = some (decide (x = y)) := by
  unfold counterpaneref05_Same.f
  by_cases hl : x.length = y.length
  · rw [if_pos (by omega)]
    have := same5_l x y hl hx x.length 0 k (by omega) hk
    simpa using this
  · rw [if_neg (by omega), decide_eq_false (fun e => hl (by rw [e]))]
theorem prm_ext {x y : Prm} (h0 : x.f0 = y.f0) (h1 : x.f1 = y.f1) (h2 : x.f2 = y.f2) (h3 : x.f3 = y.f3) (h4 : x.f4 = y.f4) (h5 : x.f5 = y.f5) (h6 : x.f6 = y.f6) : x = y := by
  cases x; cases y
  simp only at h0 h1 h2 h3 h4 h5 h6
  subst h0 h1 h2 h3 h4 h5 h6
  rfl
instance prmEq : DecidableEq Prm := fun x y => decidable_of_iff (x.f0 = y.f0 ∧ x.f1 = y.f1 ∧ x.f2 = y.f2 ∧ x.f3 = y.f3 ∧ x.f4 = y.f4 ∧ x.f5 = y.f5 ∧ x.f6 = y.f6) ⟨fun ⟨h0, h1, h2, h3, h4, h5, h6⟩ => prm_ext h0 h1 h2 h3 h4 h5 h6, fun h => by subst h; exact ⟨rfl, rfl, rfl, rfl, rfl, rfl, rfl⟩⟩
theorem same8_f (x y : Prm) (h5 : x.f5.length ≤ capN) (h6 : x.f6.length ≤ capN) : ∃ k0, ∀ k, k0 < k → counterpaneref08_Same.f k x.f0 x.f1 x.f2 x.f3 x.f4 x.f5 x.f6 y.f0 y.f1 y.f2 y.f3 y.f4 y.f5 y.f6 = some (decide (x = y)) := by
  refine ⟨x.f5.length + x.f6.length, fun k hk => ?_⟩
  unfold counterpaneref08_Same.f
  rw [same5_f _ _ h5 k (by omega), same5_f _ _ h6 k (by omega)]
  have neg : (x ≠ y) → some false = some (decide (x = y)) := fun h => by rw [decide_eq_false h]
  by_cases e0 : x.f0 = y.f0
  · rw [if_pos e0]
    by_cases e1 : x.f1 = y.f1
    · rw [if_pos ((bytes_eqN _ _).2 e1)]
      by_cases e2 : x.f2 = y.f2
      · rw [if_pos ((bytes_eqN _ _).2 e2)]
        by_cases e3 : x.f3 = y.f3
        · rw [if_pos ((bytes_eqN _ _).2 e3)]
          by_cases e4 : x.f4 = y.f4
          · rw [if_pos e4]
            by_cases e5 : x.f5 = y.f5
            · rw [decide_eq_true e5]
              simp only [Option.bind_some, if_true]
              by_cases e6 : x.f6 = y.f6
              · rw [decide_eq_true e6, decide_eq_true (prm_ext e0 e1 e2 e3 e4 e5 e6)]
              · rw [decide_eq_false e6]
                exact neg (fun h => e6 (by rw [h]))
            · rw [decide_eq_false e5]
              exact neg (fun h => e5 (by rw [h]))
          · rw [if_neg e4]
            exact neg (fun h => e4 (by rw [h]))
        · rw [if_neg (fun h => e3 ((bytes_eqN _ _).1 h))]
          exact neg (fun h => e3 (by rw [h]))
      · rw [if_neg (fun h => e2 ((bytes_eqN _ _).1 h))]
        exact neg (fun h => e2 (by rw [h]))
    · rw [if_neg (fun h => e1 ((bytes_eqN _ _).1 h))]
      exact neg (fun h => e1 (by rw [h]))
  · rw [if_neg e0]
    exact neg (fun h => e0 (by rw [h]))
theorem sameL_l (x y : List Prm) (hl : x.length = y.length) (hx : x.length ≤ capN) (hc : ∀ p ∈ x, p.f5.length ≤ capN ∧ p.f6.length ≤ capN) : ∀ (d i : Nat), i + d = x.length → ∃ k0, ∀ k, k0 < k → counterpaneref08_SameList.l0 k x y (i : Int) = some (decide (x.drop i = y.drop i)) := by
  intro d
  unfold capN at hx
  induction d with
  | zero =>
    intro i hd
    refine ⟨0, fun k hk => ?_⟩
    obtain ⟨k, rfl⟩ : ∃ m, k = m + 1 := ⟨k - 1, by omega⟩
    rw [counterpaneref08_SameList.l0, if_neg (by omega), decide_eq_true (by rw [List.drop_eq_nil_of_le (by omega), List.drop_eq_nil_of_le (by omega)])]
  | succ d ih =>
    intro i hd
    have h1 : i < x.length := by omega
    have h2 : i < y.length := by omega
    obtain ⟨c5, c6⟩ := hc _ (List.getElem_mem h1)
    obtain ⟨k1, hk1⟩ := same8_f (x[i]'h1) (y[i]'h2) c5 c6
    obtain ⟨k2, hk2⟩ := ih (i + 1) (by omega)
    refine ⟨k1 + k2 + 1, fun k hk => ?_⟩
    obtain ⟨k, rfl⟩ : ∃ m, k = m + 1 := ⟨k - 1, by omega⟩
    rw [counterpaneref08_SameList.l0, if_pos (by omega), if_pos (by omega), if_pos (by omega), rd_natN _ _ h1, rd_natN _ _ h2, hk1 k (by omega)]
    simp only [Option.bind_some]
    by_cases e : x[i]'h1 = y[i]'h2
    · rw [decide_eq_true e, if_pos rfl, wrap_succN _ (by omega), hk2 k (by omega)]
      congr 1
      rw [decide_eq_decide, List.drop_eq_getElem_cons h1, List.drop_eq_getElem_cons h2, List.cons.injEq]
      exact ⟨fun h => ⟨e, h⟩, fun h => h.2⟩
    · rw [decide_eq_false e, if_neg (by decide)]
      congr 1
      symm
      rw [decide_eq_false_iff_not, List.drop_eq_getElem_cons h1, List.drop_eq_getElem_cons h2, List.cons.injEq]
      exact fun h => e h.1
theorem pat_ext {p q : Pat} (h0 : p.name = q.name) (h1 : p.deps = q.deps) (h2 : p.body = q.body) : p = q := by
  cases p; cases q
  simp only at h0 h1 h2
  subst h0 h1 h2
  rfl
instance patEq : DecidableEq Pat := fun p q => decidable_of_iff (p.name = q.name ∧ p.deps = q.deps ∧ p.body = q.body) ⟨fun ⟨h0, h1, h2⟩ => pat_ext h0 h1 h2, fun h => by subst h; exact ⟨rfl, rfl, rfl⟩⟩
def sameB (p q : Pat) : Bool := decide (p = q)
theorem sameB_iff {p q : Pat} : sameB p q = true ↔ p = q := by
  unfold sameB
  exact decide_eq_true_iff
theorem same13_f (p q : Pat) (hc : CapPat p) : ∃ k, counterpaneref13_Same.f k p.name p.deps p.body q.name q.deps q.body = some (sameB p q) := by
  have neg : (p ≠ q) → some false = some (sameB p q) := fun h => by unfold sameB; rw [decide_eq_false h]
  have hs : ∃ k0, ∀ k, k0 < k → counterpaneref08_SameList.f k p.body q.body = some (decide (p.body = q.body)) := by
    by_cases hl : p.body.length = q.body.length
    · obtain ⟨k0, h0⟩ := sameL_l p.body q.body hl hc.body hc.each p.body.length 0 (by omega)
      refine ⟨k0, fun k hk => ?_⟩
      unfold counterpaneref08_SameList.f
      rw [if_pos (by omega)]
      exact h0 k hk
    · refine ⟨0, fun k hk => ?_⟩
      unfold counterpaneref08_SameList.f
      rw [if_neg (by omega), decide_eq_false (fun e => hl (by rw [e]))]
  obtain ⟨k0, h0⟩ := hs
  refine ⟨k0 + p.deps.length + 1, ?_⟩
  unfold counterpaneref13_Same.f
  rw [same5_f _ _ hc.deps _ (by omega), h0 _ (by omega)]
  simp only [Option.bind_some]
  by_cases e0 : p.name = q.name
  · rw [if_pos ((bytes_eqN _ _).2 e0)]
    by_cases e1 : p.deps = q.deps
    · rw [decide_eq_true e1, if_pos rfl]
      by_cases e2 : p.body = q.body
      · rw [decide_eq_true e2]
        unfold sameB
        rw [decide_eq_true (pat_ext e0 e1 e2)]
      · rw [decide_eq_false e2]
        exact neg (fun h => e2 (by rw [h]))
    · rw [decide_eq_false e1, if_neg (by decide)]
      exact neg (fun h => e1 (by rw [h]))
  · rw [if_neg (fun h => e0 ((bytes_eqN _ _).1 h))]
    exact neg (fun h => e0 (by rw [h]))
end Go.Proofs.YtijfedahhgcfpaaDoor
