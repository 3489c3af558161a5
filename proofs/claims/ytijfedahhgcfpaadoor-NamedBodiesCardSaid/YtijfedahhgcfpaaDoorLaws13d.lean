/- NamedBodies: its law. (mklaw13d.py wrote it.) -/
import Derived.Test.YtijfedahhgcfpaaDoorNamV
set_option linter.unusedVariables false
set_option linter.unusedSimpArgs false
namespace Go.Proofs.YtijfedahhgcfpaaDoor
open Go.RowKit Go.Proofs.YtijfedahhgcfpaaDoorW.PrintWords Go.Proofs.YtijfedahhgcfpaaDoorW.PrintLast

/-! ## plain -/
theorem body_more (p : Pat) (x : Prm) (h : patR p = true) (hb : p.body.length < 256) : patR ⟨p.name, p.deps, p.body ++ [x]⟩ = primR x := by
  obtain ⟨h1, h2, h3, h4, h5⟩ := patR_parts h
  unfold patR
  simp only [List.length_append, List.length_singleton, List.all_append, List.all_cons, List.all_nil, Bool.and_true]
  rw [h1, decide_eq_true h2, decide_eq_true (show p.body.length + 1 ≤ 256 by omega), h4, h5]
  simp
def lastOf (l : List ByteArray) : ByteArray := l.getD (l.length - 1) ⟨#[]⟩
theorem getD_front (l m : List ByteArray) (i : Nat) (h : i < l.length) : (l ++ m).getD i ⟨#[]⟩ = l.getD i ⟨#[]⟩ := by
  rw [List.getD_eq_getElem?_getD, List.getD_eq_getElem?_getD, List.getElem?_append_left h]
theorem before_empty (s : ByteArray) (h : 0 < s.size) : before ⟨#[]⟩ s = true := by
  unfold before
  rw [ByteArray.toList_eq, ByteArray.toList_eq]
  have hl : s.data.toList.length = s.size := by simp
  cases hs : s.data.toList with
  | nil => rw [hs] at hl; simp at hl; omega
  | cons a r => rfl
theorem labelB_size {s : ByteArray} (h : labelB s = true) : 0 < s.size ∧ s.size ≤ 24 := by
  unfold labelB at h
  rw [Bool.and_eq_true, decide_eq_true_iff] at h
  exact h.1
theorem deps_more (name : ByteArray) (l : List ByteArray) (d : ByteArray) (h : depsR name l = true) : depsR name (l ++ [d]) = (labelB d && (before (lastOf l) d && !decide (d = name))) := by
  unfold depsR at h ⊢
  rw [List.length_append, List.length_singleton, List.range_succ, List.all_append]
  have h1 : ((List.range l.length).all fun i => depOk name (l ++ [d]) i) = true := by
    rw [List.all_eq_true] at h ⊢
    intro i hi
    have hil := List.mem_range.1 hi
    have h0 := h i hi
    unfold depOk at h0 ⊢
    rw [getD_front l [d] i hil, getD_front l [d] (i - 1) (by omega)]
    exact h0
  have e : (l ++ [d]).getD l.length ⟨#[]⟩ = d := by
    rw [List.getD_eq_getElem?_getD, List.getElem?_append_right (Nat.le_refl _)]
    simp
  rw [h1]
  simp only [List.all_cons, List.all_nil, Bool.and_true, Bool.true_and]
  unfold depOk
  rw [e]
  cases l with
  | nil =>
    cases hl : labelB d with
    | false => simp
    | true =>
      have hb : before (lastOf []) d = true := before_empty d (labelB_size hl).1
      rw [hb]
      simp
  | cons a r =>
    have e2 : (a :: r ++ [d]).getD ((a :: r).length - 1) ⟨#[]⟩ = lastOf (a :: r) := getD_front (a :: r) [d] _ (by simp)
    rw [e2, decide_eq_false (show ¬ (a :: r).length = 0 by simp)]
    cases labelB d <;> cases before (lastOf (a :: r)) d <;> cases decide (d = name) <;> rfl
theorem dep_more (p : Pat) (d : ByteArray) (h : patR p = true) (hd : p.deps.length < 256) : patR ⟨p.name, p.deps ++ [d], p.body⟩ = (labelB d && (before (lastOf p.deps) d && !decide (d = p.name))) := by
  obtain ⟨h1, h2, h3, h4, h5⟩ := patR_parts h
  unfold patR
  simp only [List.length_append, List.length_singleton]
  rw [h1, decide_eq_true h3, decide_eq_true (show p.deps.length + 1 ≤ 256 by omega), h5, deps_more _ _ _ h4]
  simp
theorem less_tri : ∀ x y : List UInt8, (!Op.bytesLess y x && !y == x) = Op.bytesLess x y
  | [], [] => rfl
  | [], b :: y => rfl
  | a :: x, [] => rfl
  | a :: x, b :: y => by
    have ih := less_tri x y
    rw [Op.bytesLess, Op.bytesLess, ← ih]
    by_cases h1 : a = b
    · subst h1
      simp
    · have h3 : (a == b) = false := beq_eq_false_iff_ne.2 h1
      have h4 : (b == a) = false := beq_eq_false_iff_ne.2 (Ne.symm h1)
      have h5 : (b :: y == a :: x) = false := beq_eq_false_iff_ne.2 (fun e => h1 (List.cons.inj e).1.symm)
      rw [h3, h4, h5]
      have h6 : a.toNat ≠ b.toNat := fun e => h1 (UInt8.toNat_inj.1 e)
      have h7 : decide (b < a) = !decide (a < b) := by
        rw [Bool.eq_iff_iff]
        simp only [UInt8.lt_iff_toNat_lt, decide_eq_true_iff, Bool.not_eq_true', decide_eq_false_iff_not]
        omega
      rw [h7]
      simp
/-! ## rows that share -/
theorem heapP : Kd.Heap kPrm := Kd.heap_iso _ (Kd.heap_pair (Kd.heap_int _) (Kd.heap_pair Kd.heap_string (Kd.heap_pair Kd.heap_string (Kd.heap_pair Kd.heap_string (Kd.heap_pair (Kd.heap_int _) (Kd.heap_pair (Kd.heap_slice _ Kd.heap_string) (Kd.heap_slice _ Kd.heap_string)))))))
theorem F_body {w W : World} {A : Option Addr} {n : Nat} {l : List Prm} (h : Kd.C kPrm w A n l) (hB : Below w.heap.size w W) : Kd.F kPrm W (fun k => k < w.heap.size) A n l :=
  fun W' hW => heapP.C (fun k hk => (hW k hk (Nat.lt_of_lt_of_le hk hB.size)).trans (hB.block k hk)) h
theorem F_one {w W : World} {g : Nat} {x : Prm} {A5 A6 : Option Addr} {c5 c6 : Nat} (hr : PrmRow w x A5 c5 A6 c6) (hB : Below w.heap.size w W) (hb : W.heap[g]? = some (.cells #[.int .i64 x.f0, .string x.f1, .string x.f2, .string x.f3, .int .i64 x.f4, .slice A5 x.f5.length c5, .slice A6 x.f6.length c6] 39 (0, 0))) : Kd.F kPrm W (fun k => k < w.heap.size ∨ k = g) (some ⟨g, 0, none⟩) 1 [x] := fun W' hW => by
  have ho : ∀ k, k < w.heap.size → W'.heap[k]? = w.heap[k]? := fun k hk => (hW k (.inl hk) (Nat.lt_of_lt_of_le hk hB.size)).trans (hB.block k hk)
  exact prms_C x hr.l5 (Kd.heap_string.C ho hr.g5) hr.l6 (Kd.heap_string.C ho hr.g6) ((hW g (.inr rfl) (blk_lt hb)).trans hb)
theorem N_empty {W : World} {g base : Nat} (h : W.heap[g]? = some (.cells #[] 39 (0, 0))) (hg : base ≤ g) : Kd.N kPrm 39 W base (fun _ => True) (.slice (some ⟨g, 0, none⟩) 0 0) [] :=
  Kd.R_N ⟨fun _ _ => trivial, [], ⟨rfl, .inr ⟨g, 0, #[], rfl, hg, h, Nat.le_refl _, by unfold maxLen; omega, rfl, rfl⟩⟩, ⟨rfl, fun j p hj => by simp at hj⟩⟩
theorem N_emptyq {W : World} {g base qb : Nat} (h : W.heap[g]? = some (.cells #[] 39 (0, 0))) (hg : base ≤ g) (hq : qb < base) : Kd.N kPrm 39 W base (fun k => k ≠ qb) (.slice (some ⟨g, 0, none⟩) 0 0) [] :=
  Kd.N_mono (Kd.N_lower (Kd.R_N ⟨fun k hk => (by simp [Value.ownBlock] at hk; omega : k ≠ qb), [], ⟨rfl, .inr ⟨g, 0, #[], rfl, hg, h, Nat.le_refl _, by unfold maxLen; omega, rfl, rfl⟩⟩, ⟨rfl, fun j p hj => by simp at hj⟩⟩) (Nat.le_refl _)) (fun _ hk => hk)
theorem R_emptyS {W : World} {g base : Nat} (h : W.heap[g]? = some (.cells #[] 9 (0, 0))) (hg : base ≤ g) : Kd.string.R 9 W base (fun _ => True) (.slice (some ⟨g, 0, none⟩) 0 0) [] :=
  ⟨fun _ _ => trivial, [], ⟨rfl, .inr ⟨g, 0, #[], rfl, hg, h, Nat.le_refl _, by unfold maxLen; omega, rfl, rfl⟩⟩, ⟨rfl, fun j p hj => by simp at hj⟩⟩
set_option maxRecDepth 100000 in
set_option maxHeartbeats 32000000 in
theorem bodies_law (w : World) (x0 : Pat) (cs0 : Array Value) (hx0 : kPat.K w x0 cs0.toList) (hg0 : goodPat x0) (x1 : Prm) (cs1 : Array Value) (hx1 : kPrm.K w x1 cs1.toList) (hg1 : goodX x1) (dep : ByteArray) (hdep : dep.size ≤ 140737488351232) (hG : Ground w) :
    Calls Tryd.prog 5 #[.agg cs0, .agg cs1, .string dep] w fun e w' => e = .returned (.bool true) ∧ Below w.heap.size w w' := by
  obtain ⟨Ad, cd, Ab, cb, rfl, hcd, hD, hcb, hP⟩ := pat_open hx0
  obtain ⟨A5, c5, A6, c6, rfl, l5, g5, l6, g6⟩ := prim_open hx1
  obtain ⟨p, hp⟩ : ∃ p, p = x0 := ⟨_, rfl⟩
  obtain ⟨x, hx⟩ : ∃ x, x = x1 := ⟨_, rfl⟩
  have hcap := hg0.cap
  rw [← hp] at hD hP hcd hcb hcap
  rw [← hx] at l5 g5 l6 g6 hg1
  rw [← hx]
  have hrow : PrmRow w x A5 c5 A6 c6 := ⟨l5, g5, l6, g6⟩
  obtain ⟨nd, hnd⟩ : ∃ m, p.deps.length = m := ⟨_, rfl⟩
  obtain ⟨nb, hnb⟩ : ∃ m, p.body.length = m := ⟨_, rfl⟩
  rw [hnd] at hD hcd
  rw [hnb] at hP hcb
  rw [← hp, hnd, hnb]
  have HD := Lib.hid (And.intro hnd (And.intro hnb (And.intro hD (And.intro hcd (And.intro hP hcb)))))
  have HX := Lib.hid (And.intro hrow hg1)
  have HCAP := Lib.hid hcap
  have HG := Lib.hid hG
  clear hx0 hg0 hcd hD hcb hP hnd hnb hp hcap hx1 hg1 l5 g5 l6 g6 hx hrow hG
  obtain ⟨w0, hw0⟩ : ∃ w0, w0 = w.alloc (.cells #[.string p.name, .slice Ad nd cd, .slice Ab nb cb] 25) := ⟨_, rfl⟩
  obtain ⟨w1, hw1⟩ : ∃ w1, w1 = w0.alloc (.cells #[.int .i64 x.f0, .string x.f1, .string x.f2, .string x.f3, .int .i64 x.f4, .slice A5 x.f5.length c5, .slice A6 x.f6.length c6] 39) := ⟨_, rfl⟩
  have hs0 : w0.heap.size = w.heap.size + 1 := by rw [hw0]; simp
  have hB0 : Below w.heap.size w w0 := by rw [hw0]; exact (Below.refl _ _).alloc (Nat.le_refl _) _
  have hb0 : w0.heap[w.heap.size]? = some (.cells #[.string p.name, .slice Ad nd cd, .slice Ab nb cb] 25 (0, 0)) := by rw [hw0]; exact heap_alloc_new w _
  have hB01 : Below w0.heap.size w0 w1 := by rw [hw1]; exact (Below.refl _ _).alloc (Nat.le_refl _) _
  have hb1 : w1.heap[w.heap.size + 1]? = some (.cells #[.int .i64 x.f0, .string x.f1, .string x.f2, .string x.f3, .int .i64 x.f4, .slice A5 x.f5.length c5, .slice A6 x.f6.length c6] 39 (0, 0)) := by rw [hw1, ← hs0]; exact heap_alloc_new w0 _
  have HW := Lib.hid (And.intro hw0 hw1)
  have HB1 := Lib.hid (And.intro (hB0.trans (hB01.mono hB0.size)) (And.intro (blk_below hb0 hB01) hb1))
  clear hw0 hw1 hB0 hb0 hB01 hb1 hs0
  go_enter Tryd.func5, Tryd.ntmps5
  go_wp2_with fail
  rw [← HW.out.1, ← HW.out.2]
  refine (head_any w1 (HG.out.below HB1.out.1)).mono ?_
  rintro e w2 ⟨rfl, hB2⟩
  have HB2 := Lib.hid (And.intro (HB1.out.1.trans (hB2.mono HB1.out.1.size)) (And.intro (blk_below HB1.out.2.1 hB2) (blk_below HB1.out.2.2 hB2)))
  clear hB2
  obtain ⟨g0, g1, g2⟩ := cells3p HB2.out.2.1
  have gl := blk_lt HB2.out.2.1
  obtain ⟨k0, k1, k2, k3, k4, k5, k6⟩ := cells7p HB2.out.2.2
  have kl := blk_lt HB2.out.2.2
  go_wp2_with fail
  refine (great_any p HCAP.out Ad Ab nd nb cd cb HD.out.1 HD.out.2.1 w2 (Kd.C_below HD.out.2.2.1 HB2.out.1) HD.out.2.2.2.1 (Kd.C_below HD.out.2.2.2.2.1 HB2.out.1) HD.out.2.2.2.2.2).mono ?_
  rintro e w3 ⟨r0, rfl, hless0, hB3⟩
  have HB3 := Lib.hid (And.intro (HB2.out.1.trans (hB3.mono HB2.out.1.size)) (And.intro (blk_below HB2.out.2.1 hB3) (blk_below HB2.out.2.2 hB3)))
  clear hB3
  clear g0 g1 g2 gl k0 k1 k2 k3 k4 k5 k6 kl
  obtain ⟨g0, g1, g2⟩ := cells3p HB3.out.2.1
  have gl := blk_lt HB3.out.2.1
  obtain ⟨k0, k1, k2, k3, k4, k5, k6⟩ := cells7p HB3.out.2.2
  have kl := blk_lt HB3.out.2.2
  cases r0 with
  | true =>
    clear hless0
    go_wp2_with fail
    go_ret
    exact ⟨rfl, HB3.out.1⟩
  | false =>
    have HLP := Lib.hid (hless0 rfl)
    clear hless0
    go_wp2_with fail
    refine (great8_any x HX.out.2 A5 A6 c5 c6 w3 (PrmRow.below HX.out.1 HB3.out.1)).mono ?_
    rintro e w4 ⟨r1, rfl, hless1, hB4⟩
    have HB4 := Lib.hid (And.intro (HB3.out.1.trans (hB4.mono HB3.out.1.size)) (And.intro (blk_below HB3.out.2.1 hB4) (blk_below HB3.out.2.2 hB4)))
    clear hB4
    clear g0 g1 g2 gl k0 k1 k2 k3 k4 k5 k6 kl
    obtain ⟨g0, g1, g2⟩ := cells3p HB4.out.2.1
    have gl := blk_lt HB4.out.2.1
    obtain ⟨k0, k1, k2, k3, k4, k5, k6⟩ := cells7p HB4.out.2.2
    have kl := blk_lt HB4.out.2.2
    cases r1 with
    | true =>
      clear hless1
      go_wp2_with fail
      go_ret
      exact ⟨rfl, HB4.out.1⟩
    | false =>
      have HLX := Lib.hid (hless1 rfl)
      clear hless1
      rcases Nat.lt_or_ge 1000 dep.size with hds | hds
      · have hdsI : (1000 : Int) < (dep.size : Int) := by omega
        go_wp2_with fail
        go_ret
        exact ⟨rfl, HB4.out.1⟩
      have hdsI : ¬ (1000 : Int) < (dep.size : Int) := by omega
      have HDS := Lib.hid hds
      clear hds
      have hps : ∀ x ∈ p.body, sizesOk x := fun x hx => (HLP.out.body x hx).sizes
      have hd9 : nd ≤ 1000000000 := by have h1 := HLP.out.deps.1; have h2 := HD.out.1; omega
      have hb9 : nb ≤ 1000000000 := by have h1 := HLP.out.few; have h2 := HD.out.2.1; omega
      have hrt := nright_any p Ad Ab nd nb cd cb w4 HD.out.1 HD.out.2.1 (Kd.C_below HD.out.2.2.1 HB4.out.1) (Kd.C_below HD.out.2.2.2.2.1 HB4.out.1) hps hd9 hb9
      obtain ⟨q, hq⟩ : ∃ q, q = patR p := ⟨_, rfl⟩
      rw [← hq] at hrt
      have HRT := Lib.hid hrt
      have HQ := Lib.hid (And.intro hq (And.intro hps (And.intro hd9 hb9)))
      clear hps hd9 hb9 hrt hq
      go_wp2_with fail
      refine HRT.out.mono ?_
      rintro e w5 ⟨rfl, hB5⟩
      have HB5 := Lib.hid (And.intro (HB4.out.1.trans (hB5.mono HB4.out.1.size)) (And.intro (blk_below HB4.out.2.1 hB5) (blk_below HB4.out.2.2 hB5)))
      clear hB5
      clear g0 g1 g2 gl k0 k1 k2 k3 k4 k5 k6 kl
      obtain ⟨g0, g1, g2⟩ := cells3p HB5.out.2.1
      have gl := blk_lt HB5.out.2.1
      obtain ⟨k0, k1, k2, k3, k4, k5, k6⟩ := cells7p HB5.out.2.2
      have kl := blk_lt HB5.out.2.2
      cases q with
      | false =>
        go_wp2_with fail
        go_ret
        exact ⟨rfl, HB5.out.1⟩
      | true =>
        rcases Nat.lt_or_ge nb 256 with hb256 | hb256
        case inr =>
          have hbI : (256 : Int) ≤ (nb : Int) := by omega
          go_wp2_with fail
          go_ret
          exact ⟨rfl, HB5.out.1⟩
        have hbI : ¬ (256 : Int) ≤ (nb : Int) := by omega
        rcases Nat.lt_or_ge nd 256 with hd256 | hd256
        case inr =>
          have hdI : (256 : Int) ≤ (nd : Int) := by omega
          go_wp2_with fail
          go_ret
          exact ⟨rfl, HB5.out.1⟩
        have hdI : ¬ (256 : Int) ≤ (nd : Int) := by omega
        have H256 := Lib.hid (And.intro hb256 hd256)
        clear hb256 hd256
        go_upto_region 5 with (fail)
        rename_i K5 hK5
        obtain ⟨w6, hw6⟩ : ∃ w6, w6 = w5.alloc (.cells #[.string p.name, .slice Ad nd cd, .slice Ab nb cb] 25) := ⟨_, rfl⟩
        rw [← hw6]
        have hB56 : Below w5.heap.size w5 w6 := by rw [hw6]; exact (Below.refl _ _).alloc (Nat.le_refl _) _
        have hq6 : w6.heap[w5.heap.size]? = some (.cells #[.string p.name, .slice Ad nd cd, .slice Ab nb cb] 25 (0, 0)) := by rw [hw6]; exact heap_alloc_new w5 _
        have hwq : w.heap.size + 1 < w5.heap.size := blk_lt HB5.out.2.2
        obtain ⟨qb, hqb⟩ : ∃ b, b = w5.heap.size := ⟨_, rfl⟩
        rw [← hqb] at hq6 hwq
        rw [← hqb]
        have hq6l := blk_lt hq6
        have HB6 := Lib.hid (And.intro (HB5.out.1.trans (hB56.mono HB5.out.1.size)) (And.intro (blk_below HB5.out.2.1 hB56) (And.intro (blk_below HB5.out.2.2 hB56) (And.intro hq6 (And.intro hwq hq6l)))))
        clear hw6 hB56 hq6 hwq hqb hq6l
        clear g0 g1 g2 gl k0 k1 k2 k3 k4 k5 k6 kl
        have REST : ∀ (u42 u43 u44 u45 u46 u47 u48 u49 : Value) (A9 : Option Addr) (d9 : Nat) (W : World), Below w.heap.size w W → W.heap[w.heap.size]? = some (.cells #[.string p.name, .slice Ad nd cd, .slice Ab nb cb] 25 (0, 0)) → W.heap[w.heap.size + 1]? = some (.cells #[.int .i64 x.f0, .string x.f1, .string x.f2, .string x.f3, .int .i64 x.f4, .slice A5 x.f5.length c5, .slice A6 x.f6.length c6] 39 (0, 0)) → W.heap[qb]? = some (.cells #[.string p.name, .slice Ad nd cd, .slice A9 (nb + 1) d9] 25 (0, 0)) → Kd.N kPrm 39 W w6.heap.size (fun k => k ≠ qb) (.slice A9 (nb + 1) d9) (p.body ++ [x]) →
            K5 { tmps := #[.agg #[.string p.name, .slice Ad nd cd, .slice Ab nb cb], .agg #[.int .i64 x.f0, .string x.f1, .string x.f2, .string x.f3, .int .i64 x.f4, .slice A5 x.f5.length c5, .slice A6 x.f6.length c6], .string dep, .pointer (some ⟨w.heap.size, 0, none⟩), .pointer (some ⟨w.heap.size + 1, 0, none⟩), undef, .bool false, .bool true, .pointer (some ⟨qb, 0, none⟩), undef, undef, .bool true, .agg #[.string p.name, .slice Ad nd cd, .slice Ab nb cb], .bool false, .bool false, .agg #[.int .i64 x.f0, .string x.f1, .string x.f2, .string x.f3, .int .i64 x.f4, .slice A5 x.f5.length c5, .slice A6 x.f6.length c6], .bool false, .bool false, .bool false, .string dep, .int .i64 (dep.size : Int), .bool (decide (1000 < (dep.size : Int))), .bool (decide (1000 < (dep.size : Int))), .bool (decide (1000 < (dep.size : Int))), .agg #[.string p.name, .slice Ad nd cd, .slice Ab nb cb], .bool true, .bool false, .bool (decide (1000 < (dep.size : Int))), .bool (decide (1000 < (dep.size : Int))), .pointer (some ⟨w.heap.size, 2, none⟩), .slice Ab nb cb, .int .i64 (nb : Int), .bool (decide (256 ≤ (nb : Int))), .bool (decide (1000 < (dep.size : Int)) || decide (256 ≤ (nb : Int))), .bool (decide (1000 < (dep.size : Int)) || decide (256 ≤ (nb : Int))), .pointer (some ⟨w.heap.size, 1, none⟩), .slice Ad nd cd, .int .i64 (nd : Int), .bool (decide (256 ≤ (nd : Int))), .bool (decide (1000 < (dep.size : Int)) || decide (256 ≤ (nb : Int)) || decide (256 ≤ (nd : Int))), undef, .agg #[.string p.name, .slice Ad nd cd, .slice Ab nb cb], u42, u43, u44, u45, u46, u47, u48, u49, undef, undef, undef, undef, undef, undef, undef, undef, undef, undef, undef, undef, undef, undef, undef, undef, undef, undef, undef, undef, undef, undef, undef, undef, undef, undef, undef, undef, undef, undef, undef, undef, undef, undef, undef, undef, undef, undef, undef, undef, undef, undef, undef, undef, undef, undef, undef], defers := [] } W := by
          intro u42 u43 u44 u45 u46 u47 u48 u49 A9 d9 w10 hB10 hp10 hx10 hq10 hN10
          apply hK5
          have HB10 := Lib.hid (And.intro hB10 (And.intro hp10 (And.intro hx10 (And.intro hq10 hN10))))
          clear hB10 hp10 hx10 hq10 hN10
          obtain ⟨g0, g1, g2⟩ := cells3p HB10.out.2.1
          have gl := blk_lt HB10.out.2.1
          have hsz10 := HB10.out.1.size
          go_upto_region 7 with (fail)
          obtain ⟨w11, hw11⟩ : ∃ w11, w11 = w10.alloc (.cells #[.string p.name, .slice Ad nd cd, .slice Ab nb cb] 25) := ⟨_, rfl⟩
          rw [← hw11]
          have hB1011 : Below w10.heap.size w10 w11 := by rw [hw11]; exact (Below.refl _ _).alloc (Nat.le_refl _) _
          have hd11 : w11.heap[w10.heap.size]? = some (.cells #[.string p.name, .slice Ad nd cd, .slice Ab nb cb] 25 (0, 0)) := by rw [hw11]; exact heap_alloc_new w10 _
          have hdl := blk_lt hd11
          obtain ⟨db, hdb⟩ : ∃ b, b = w10.heap.size := ⟨_, rfl⟩
          rw [← hdb] at hd11 hdl
          rw [← hdb]
          have HB11 := Lib.hid (And.intro (HB10.out.1.trans (hB1011.mono HB10.out.1.size)) (And.intro (blk_below HB10.out.2.1 hB1011) (And.intro hd11 (And.intro hdb (And.intro hB1011 hdl)))))
          clear hw11 hB1011 hd11 hdl hdb g0 g1 g2 gl hsz10
          obtain ⟨g0, g1, g2⟩ := cells3p HB11.out.2.1
          have gl := blk_lt HB11.out.2.1
          have hnd9 : nd < 256 := H256.out.2
          go_wp2_with (at_builtin; go_loud (refine Kd.R_append_rows (w0 := w11) Kd.string (Rr := fun x cs => cs = [.string x]) w11.heap.size rfl _ _ 22 9 (.string ⟨#[]⟩) 16 rfl Tryd.underlying22 infoSN rfl (by decide) (by decide) (.slice (some ⟨w11.heap.size, 0, none⟩) 0 0) [] p.deps Ad nd cd (fun _ => True) (fun _ => False) rfl rfl ?ho1 ?hr1 (fun x cs h => h) (fun _ h => h.elim) (fun _ _ => trivial) ?hb1 ?hbase1 ?hl1 ?hk1))
          try case ho1 => exact R_emptyS (heap_alloc_new w11 _) (Nat.le_refl _)
          try case hr1 => exact Kd.C_below HD.out.2.2.1 (HB11.out.1.trans (((Below.refl _ _).alloc (Nat.le_refl _) _).mono HB11.out.1.size))
          try case hb1 => exact (Below.refl _ _).alloc (Nat.le_refl _) _
          case hbase1 => simp
          case hl1 => simp; omega
          intro v12 w12 hR12 hB12 hg12 hat12
          try rw [List.nil_append] at hR12
          obtain ⟨A12, c12, e12⟩ := Kd.R_slice hR12
          subst e12
          rw [HD.out.1] at hR12
          rw [HD.out.1]
          have HR12 := Lib.hid (And.intro hR12 hB12)
          clear hR12 hB12 hg12 hat12
          go_wp2_with (at_builtin; go_loud (refine Kd.R_append (w0 := w12) (W := w12) Kd.string w11.heap.size rfl _ _ 22 9 (.string ⟨#[]⟩) 16 rfl Tryd.underlying22 infoSN rfl (by decide) (by decide) (.slice A12 nd c12) p.deps dep [.string dep] (fun _ => True) (fun _ => False) rfl rfl rfl (fun _ h => h.elim) (fun _ _ => trivial) HR12.out.1 (Below.refl _ _) HR12.out.2.size (by rw [HD.out.1]; omega) ?_))
          intro v13 w13 hR13 hB13 hg13 hat13
          obtain ⟨A13, c13, e13⟩ := Kd.R_slice hR13
          subst e13
          have hl13 : (p.deps ++ [dep]).length = nd + 1 := by rw [List.length_append, HD.out.1]; rfl
          rw [hl13] at hR13
          rw [hl13]
          have hB1113 : Below w11.heap.size w11 w13 := HR12.out.2.trans hB13
          have hB1013 : Below w10.heap.size w10 w13 := HB11.out.2.2.2.2.1.trans (hB1113.mono HB11.out.2.2.2.2.1.size)
          have hd13 := blk_below HB11.out.2.2.1 hB1113
          obtain ⟨j0, j1, j2⟩ := cells3p hd13
          have jl := blk_lt hd13
          have fz1 := Lib.frozen_of_heap hd13 1
          have HF := Lib.hid (And.intro hR13 (And.intro hB1113 (And.intro hB1013 hd13)))
          clear hR13 hB13 hg13 hat13 hl13 hB1113 hB1013 hd13 g0 g1 g2 gl
          go_upto_region 8 with (fail)
          obtain ⟨w14, hw14⟩ : ∃ w14, w14 = w13.setCell ⟨db, 1, none⟩ (.slice A13 (nd + 1) c13) := ⟨_, rfl⟩
          rw [← hw14]
          have ho14 : ∀ k, k ≠ db → w14.heap[k]? = w13.heap[k]? := fun k hk => by rw [hw14]; exact Below.heap_setCell w13 ⟨db, 1, none⟩ _ k hk
          have hdw : w.heap.size + 1 < db := by have h1 := blk_lt HB10.out.2.2.1; rw [HB11.out.2.2.2.1]; exact h1
          have hdq : qb ≠ db := by have h1 := blk_lt HB10.out.2.2.2.1; have h2 := HB11.out.2.2.2.1; omega
          have hB14 : Below w.heap.size w w14 := by rw [hw14]; exact (HB10.out.1.trans (HF.out.2.2.1.mono HB10.out.1.size)).setCell (p := ⟨db, 1, none⟩) (by show w.heap.size ≤ db; omega) _
          have hp14 := (ho14 w.heap.size (by omega)).trans (blk_below HB10.out.2.1 HF.out.2.2.1)
          have hx14 := (ho14 (w.heap.size + 1) (by omega)).trans (blk_below HB10.out.2.2.1 HF.out.2.2.1)
          have hq14 := (ho14 qb hdq).trans (blk_below HB10.out.2.2.2.1 HF.out.2.2.1)
          have hd14 : w14.heap[db]? = some (.cells #[.string p.name, .slice A13 (nd + 1) c13, .slice Ab nb cb] 25 (0, 0)) := by rw [hw14]; exact blk_set HF.out.2.2.2 1 _
          have hN14 : Kd.N kPrm 39 w14 w6.heap.size (fun k => k ≠ qb ∧ k ≠ db) (.slice A9 (nb + 1) d9) (p.body ++ [x]) := by
            rw [hw14]
            exact Kd.N_far (Kd.N_below (Kd.N_elderB HB10.out.2.2.2.2 db (by rw [HB11.out.2.2.2.1]; exact Nat.le_refl _)) HF.out.2.2.1) (p := ⟨db, 1, none⟩) (fun k hk => hk.2) _
          have hR14 : Kd.string.R 9 w14 w11.heap.size (fun _ => True) (.slice A13 (nd + 1) c13) (p.deps ++ [dep]) := by
            rw [hw14]
            exact Kd.R_set HF.out.1 HF.out.2.2.2 (fun q hq => ty_ne hq _ (by decide)) 1 _
          obtain ⟨hlq, _, hCq⟩ := Kd.N_reads' hN14
          have hCd : Kd.string.C w14 A13 (nd + 1) (p.deps ++ [dep]) := by
            obtain ⟨A', c', e', _, h⟩ := Kd.R_reads hR14
            injection e' with e1 e2 e3
            rw [← e1, ← e2] at h
            exact h
          rw [← hlq] at hCq
          have HB14 := Lib.hid (And.intro hB14 (And.intro hp14 (And.intro hx14 (And.intro hq14 (And.intro hd14 (And.intro hCq hCd))))))
          clear hw14 ho14 hdw hdq hB14 hp14 hx14 hq14 hd14 hN14 hR14 hlq hCq hCd j0 j1 j2 jl fz1
          obtain ⟨g0, g1, g2⟩ := cells3p HB14.out.2.1
          have gl := blk_lt HB14.out.2.1
          have hS11 : ∀ W, Below w14.heap.size w14 W → (fun W => Below w14.heap.size w14 W ∧ W.cell? ⟨qb, 0, none⟩ = some (.string p.name) ∧ W.cell? ⟨qb, 1, none⟩ = some (.slice Ad nd cd) ∧ W.cell? ⟨qb, 2, none⟩ = some (.slice A9 (nb + 1) d9) ∧ W.cell? ⟨w.heap.size + 1, 0, none⟩ = some (.int .i64 x.f0) ∧ W.cell? ⟨w.heap.size + 1, 1, none⟩ = some (.string x.f1) ∧ W.cell? ⟨w.heap.size + 1, 2, none⟩ = some (.string x.f2) ∧ W.cell? ⟨w.heap.size + 1, 3, none⟩ = some (.string x.f3) ∧ W.cell? ⟨w.heap.size + 1, 4, none⟩ = some (.int .i64 x.f4) ∧ W.cell? ⟨w.heap.size + 1, 5, none⟩ = some (.slice A5 x.f5.length c5) ∧ W.cell? ⟨w.heap.size + 1, 6, none⟩ = some (.slice A6 x.f6.length c6) ∧ W.cell? ⟨db, 0, none⟩ = some (.string p.name) ∧ W.cell? ⟨db, 1, none⟩ = some (.slice A13 (nd + 1) c13) ∧ W.cell? ⟨db, 2, none⟩ = some (.slice Ab nb cb) ∧ W.cell? ⟨w.heap.size, 0, none⟩ = some (.string p.name) ∧ w.heap.size < W.heap.size ∧ w.heap.size + 1 < W.heap.size ∧ qb < W.heap.size ∧ db < W.heap.size) W := fun W hB => by
            obtain ⟨g0, g1, g2⟩ := cells3p (blk_below HB14.out.2.1 hB)
            obtain ⟨k0, k1, k2, k3, k4, k5, k6⟩ := cells7p (blk_below HB14.out.2.2.1 hB)
            obtain ⟨q0, q1, q2⟩ := cells3p (blk_below HB14.out.2.2.2.1 hB)
            obtain ⟨e0, e1, e2⟩ := cells3p (blk_below HB14.out.2.2.2.2.1 hB)
            exact ⟨hB, q0, q1, q2, k0, k1, k2, k3, k4, k5, k6, e0, e1, e2, g0, blk_lt (blk_below HB14.out.2.1 hB), blk_lt (blk_below HB14.out.2.2.1 hB), blk_lt (blk_below HB14.out.2.2.2.1 hB), blk_lt (blk_below HB14.out.2.2.2.2.1 hB)⟩
          have HS11 := Lib.hid hS11
          have hbm := body_more p x HQ.out.1.symm (by rw [HD.out.2.1]; exact H256.out.1)
          have hdm := dep_more p dep HQ.out.1.symm (by rw [HD.out.1]; exact H256.out.2)
          obtain ⟨rx, hrx⟩ : ∃ r, r = primR x := ⟨_, rfl⟩
          obtain ⟨lb, hlb⟩ : ∃ r, r = labelB dep := ⟨_, rfl⟩
          obtain ⟨last, hlast⟩ : ∃ l, l = lastOf p.deps := ⟨_, rfl⟩
          obtain ⟨bf, hbf⟩ : ∃ r, r = before last dep := ⟨_, rfl⟩
          obtain ⟨rn, hrn⟩ : ∃ r, r = !decide (dep = p.name) := ⟨_, rfl⟩
          rw [← hrx] at hbm
          rw [← hlast, ← hlb, ← hbf, ← hrn] at hdm
          have hbf2 : (!Op.bytesLess dep.toList last.toList && !dep.toList == last.toList) = bf := (less_tri last.toList dep.toList).trans hbf.symm
          have hrn2 : (dep.toList == p.name.toList) = !rn := by rw [eqU, hrn]; simp
          have hrn3 : (dep.toList != p.name.toList) = rn := by
            show (!(dep.toList == p.name.toList)) = rn
            rw [hrn2]
            simp
          have hlbl := fun W => label_any dep W
          rw [← hlb] at hlbl
          have HV := Lib.hid (And.intro hbm (And.intro hdm (And.intro hrx hlast)))
          have HLBL := Lib.hid hlbl
          have hrr : (rx == rx) = true := by simp
          have hnn : (rn == rn) = true := by simp
          clear hS11 hbm hdm hrx hlb hbf hrn hlbl hlast
          have hszq : ∀ y ∈ p.body ++ [x], sizesOk y := fun y hy => by
            rcases List.mem_append.1 hy with hy | hy
            · exact HQ.out.2.1 y hy
            · rw [List.mem_singleton] at hy
              subst hy
              exact HLX.out.sizes
          have HSQ := Lib.hid hszq
          clear hszq
          go_upto_region 9 with (fail)
          rename_i K11 hK11 K10 hK10
          have REST11 : ∀ (u59 u60 u61 u62 u63 u64 u65 u66 u67 u68 u69 u70 : Value), K11 { tmps := #[.agg #[.string p.name, .slice Ad nd cd, .slice Ab nb cb], .agg #[.int .i64 x.f0, .string x.f1, .string x.f2, .string x.f3, .int .i64 x.f4, .slice A5 x.f5.length c5, .slice A6 x.f6.length c6], .string dep, .pointer (some ⟨w.heap.size, 0, none⟩), .pointer (some ⟨w.heap.size + 1, 0, none⟩), undef, .bool false, .bool true, .pointer (some ⟨qb, 0, none⟩), .pointer (some ⟨db, 0, none⟩), .string last, .bool true, .agg #[.string p.name, .slice Ad nd cd, .slice Ab nb cb], .bool false, .bool false, .agg #[.int .i64 x.f0, .string x.f1, .string x.f2, .string x.f3, .int .i64 x.f4, .slice A5 x.f5.length c5, .slice A6 x.f6.length c6], .bool false, .bool false, .bool false, .string dep, .int .i64 (dep.size : Int), .bool (decide (1000 < (dep.size : Int))), .bool (decide (1000 < (dep.size : Int))), .bool (decide (1000 < (dep.size : Int))), .agg #[.string p.name, .slice Ad nd cd, .slice Ab nb cb], .bool true, .bool false, .bool (decide (1000 < (dep.size : Int))), .bool (decide (1000 < (dep.size : Int))), .pointer (some ⟨w.heap.size, 2, none⟩), .slice Ab nb cb, .int .i64 (nb : Int), .bool (decide (256 ≤ (nb : Int))), .bool (decide (1000 < (dep.size : Int)) || decide (256 ≤ (nb : Int))), .bool (decide (1000 < (dep.size : Int)) || decide (256 ≤ (nb : Int))), .pointer (some ⟨w.heap.size, 1, none⟩), .slice Ad nd cd, .int .i64 (nd : Int), .bool (decide (256 ≤ (nd : Int))), .bool (decide (1000 < (dep.size : Int)) || decide (256 ≤ (nb : Int)) || decide (256 ≤ (nd : Int))), undef, .agg #[.string p.name, .slice Ad nd cd, .slice Ab nb cb], u42, u43, u44, u45, u46, u47, u48, u49, .agg #[.string p.name, .slice Ad nd cd, .slice Ab nb cb], .slice (some ⟨w11.heap.size, 0, none⟩) 0 0, .pointer (some ⟨w.heap.size, 1, none⟩), .slice Ad nd cd, .slice A12 nd c12, .string dep, .slice (some ⟨w12.heap.size, 0, none⟩) 1 1, .slice A13 (nd + 1) c13, .pointer (some ⟨db, 1, none⟩), u59, u60, u61, u62, u63, u64, u65, u66, u67, u68, u69, u70, undef, undef, undef, undef, undef, undef, undef, undef, undef, undef, undef, undef, undef, undef, undef, undef, undef, undef, undef, undef, undef, undef, undef, undef, undef, undef], defers := [] } w14 := by
            intro u59 u60 u61 u62 u63 u64 u65 u66 u67 u68 u69 u70
            apply hK11
            clear hK10
            go_upto_region 11 with (fail)
            cases lb with
            | false =>
              refine start_ (S := fun W => Below w14.heap.size w14 W ∧ W.cell? ⟨qb, 0, none⟩ = some (.string p.name) ∧ W.cell? ⟨qb, 1, none⟩ = some (.slice Ad nd cd) ∧ W.cell? ⟨qb, 2, none⟩ = some (.slice A9 (nb + 1) d9) ∧ W.cell? ⟨w.heap.size + 1, 0, none⟩ = some (.int .i64 x.f0) ∧ W.cell? ⟨w.heap.size + 1, 1, none⟩ = some (.string x.f1) ∧ W.cell? ⟨w.heap.size + 1, 2, none⟩ = some (.string x.f2) ∧ W.cell? ⟨w.heap.size + 1, 3, none⟩ = some (.string x.f3) ∧ W.cell? ⟨w.heap.size + 1, 4, none⟩ = some (.int .i64 x.f4) ∧ W.cell? ⟨w.heap.size + 1, 5, none⟩ = some (.slice A5 x.f5.length c5) ∧ W.cell? ⟨w.heap.size + 1, 6, none⟩ = some (.slice A6 x.f6.length c6) ∧ W.cell? ⟨db, 0, none⟩ = some (.string p.name) ∧ W.cell? ⟨db, 1, none⟩ = some (.slice A13 (nd + 1) c13) ∧ W.cell? ⟨db, 2, none⟩ = some (.slice Ab nb cb) ∧ W.cell? ⟨w.heap.size, 0, none⟩ = some (.string p.name) ∧ w.heap.size < W.heap.size ∧ w.heap.size + 1 < W.heap.size ∧ qb < W.heap.size ∧ db < W.heap.size) (ds := [26]) (n := 27) #[false, false, false, false, false, false, false, false, false, false, false, false, false, false, false, false, false, false, false, false, false, false, false, false, false, false, false] rfl rfl rfl ?hS0 (fun hHeld => ?hrun)
              case hS0 => exact HS11.out _ (Below.refl _ _).drew
              case hrun =>
                refine pure_ (i := 0) (N := some 71) (v := ?_) (a' := ?_) #[true, false, false, false, false, false, false, false, false, false, false, false, false, false, false, false, false, false, false, false, false, false, false, false, false, false, false] rfl rfl (by kernel_rfl) (fun _ _ _ h => h) (Or.inl ⟨by rfl, ?_⟩) ?_ ?_
                rotate_left
                · intro w'
                  go_simp
                  first | done | with_reducible rfl
                rotate_left
                · simp only [Act.put, List.setIfInBounds_toArray, List.set_cons_zero, List.set_cons_succ, i64_w, i32_w]
                  rfl
                refine pure_ (i := 1) (N := some 72) (v := ?_) (a' := ?_) #[true, true, false, false, false, false, false, false, false, false, false, false, false, false, false, false, false, false, false, false, false, false, false, false, false, false, false] rfl rfl (by kernel_rfl) (fun _ _ _ h => h) (Or.inl ⟨by rfl, ?_⟩) ?_ ?_
                rotate_left
                · intro w'
                  go_simp
                  first | done | with_reducible rfl
                rotate_left
                · simp only [Act.put, List.setIfInBounds_toArray, List.set_cons_zero, List.set_cons_succ, i64_w, i32_w]
                  rfl
                refine take_ (i := 2) (N := some 73) (v := ?_) (a' := ?_) #[true, true, true, false, false, false, false, false, false, false, false, false, false, false, false, false, false, false, false, false, false, false, false, false, false, false, false] rfl rfl (by kernel_rfl) (fun _ _ _ h => h) (Or.inl ⟨by rfl, ?_⟩) hHeld ?_ ?_
                rotate_left
                · rintro w' ⟨_, q0, q1, q2, k0, k1, k2, k3, k4, k5, k6, e0, e1, e2, g0, gl, kl, ql, el⟩
                  go_simp
                  first | done | with_reducible rfl
                rotate_left
                · simp only [Act.put, List.setIfInBounds_toArray, List.set_cons_zero, List.set_cons_succ, i64_w, i32_w]
                  rfl
                refine take_ (i := 4) (N := some 75) (v := ?_) (a' := ?_) #[true, true, true, false, true, false, false, false, false, false, false, false, false, false, false, false, false, false, false, false, false, false, false, false, false, false, false] rfl rfl (by kernel_rfl) (fun _ _ _ h => h) (Or.inl ⟨by rfl, ?_⟩) hHeld ?_ ?_
                rotate_left
                · rintro w' ⟨_, q0, q1, q2, k0, k1, k2, k3, k4, k5, k6, e0, e1, e2, g0, gl, kl, ql, el⟩
                  go_simp
                  first | done | with_reducible rfl
                rotate_left
                · simp only [Act.put, List.setIfInBounds_toArray, List.set_cons_zero, List.set_cons_succ, i64_w, i32_w]
                  rfl
                refine one_ (i := 3) (N := some 74) #[true, true, true, true, true, false, false, false, false, false, false, false, false, false, false, false, false, false, false, false, false, false, false, false, false, false, false] rfl rfl (by kernel_rfl) (by decide) (fun K hK => ?_)
                refine goes_ Tryd.func10 (by kernel_rfl) rfl #[.agg #[.string p.name, .slice Ad nd cd, .slice A9 (nb + 1) d9]] (by rfl) rfl rfl (by (try simp only [List.map_toArray, List.map_cons, List.map_nil]); first | done | rfl) ?_
                have hBw : Below w.heap.size w w14.drew := HB14.out.1.trans (((Below.refl _ _).drew).mono HB14.out.1.size)
                have hcq := nright_any ⟨p.name, p.deps, p.body ++ [x]⟩ Ad A9 nd (nb + 1) cd d9 w14.drew HD.out.1 (by show (p.body ++ [x]).length = nb + 1; rw [List.length_append, HD.out.2.1]; rfl) (Kd.C_below HD.out.2.2.1 hBw) (Kd.C_below HB14.out.2.2.2.2.2.1 (Below.refl _ _).drew) HSQ.out (by have := HQ.out.2.2.1; omega) (by have := H256.out.1; omega)
                rw [HV.out.1] at hcq
                refine hcq.mono ?_
                rintro e w15 ⟨rfl, hB15⟩
                have HB15 := Lib.hid ((Below.refl w14.heap.size w14).drew.trans hB15)
                clear hcq hBw hB15
                refine ⟨_, rfl, ?_⟩
                refine hK.out _ _ (HS11.out _ HB15.out) (fun hHeld1 => ?_)
                clear hK K
                refine norm_ (a' := ?_) ?_ ?_
                rotate_left
                · show Act.put _ (some 74) _ = _
                  simp only [Act.put, List.setIfInBounds_toArray, List.set_cons_zero, List.set_cons_succ, i64_w, i32_w]
                  rfl
                refine one_ (i := 5) (N := some 76) #[true, true, true, true, true, true, false, false, false, false, false, false, false, false, false, false, false, false, false, false, false, false, false, false, false, false, false] rfl rfl (by kernel_rfl) (by decide) (fun K hK => ?_)
                refine goes_ Tryd.func14 (by kernel_rfl) rfl #[.agg #[.int .i64 x.f0, .string x.f1, .string x.f2, .string x.f3, .int .i64 x.f4, .slice A5 x.f5.length c5, .slice A6 x.f6.length c6]] (by rfl) rfl rfl (by (try simp only [List.map_toArray, List.map_cons, List.map_nil]); first | done | rfl) ?_
                have hBw : Below w.heap.size w w15 := HB14.out.1.trans (HB15.out.mono HB14.out.1.size)
                have hcx := prim_any x A5 A6 x.f5.length x.f6.length c5 c6 w15 rfl rfl HLX.out.sizes (Kd.C_below HX.out.1.g5 hBw) (Kd.C_below HX.out.1.g6 hBw)
                rw [← HV.out.2.2.1] at hcx
                refine hcx.mono ?_
                rintro e w16 ⟨rfl, hB16⟩
                have HB16 := Lib.hid (HB15.out.trans (hB16.mono HB15.out.size))
                clear hcx hBw hB16
                refine ⟨_, rfl, ?_⟩
                refine hK.out _ _ (HS11.out _ HB16.out) (fun hHeld2 => ?_)
                clear hK K
                refine norm_ (a' := ?_) ?_ ?_
                rotate_left
                · show Act.put _ (some 76) _ = _
                  simp only [Act.put, List.setIfInBounds_toArray, List.set_cons_zero, List.set_cons_succ, i64_w, i32_w]
                  rfl
                refine pure_ (i := 6) (N := some 77) (v := ?_) (a' := ?_) #[true, true, true, true, true, true, true, false, false, false, false, false, false, false, false, false, false, false, false, false, false, false, false, false, false, false, false] rfl rfl (by kernel_rfl) (fun _ _ _ h => h) (Or.inl ⟨by rfl, ?_⟩) ?_ ?_
                rotate_left
                · intro w'
                  go_simp
                  first | done | with_reducible rfl
                rotate_left
                · simp only [Act.put, List.setIfInBounds_toArray, List.set_cons_zero, List.set_cons_succ, i64_w, i32_w]
                  rfl
                refine pure_ (i := 7) (N := some 78) (v := ?_) (a' := ?_) #[true, true, true, true, true, true, true, true, false, false, false, false, false, false, false, false, false, false, false, false, false, false, false, false, false, false, false] rfl rfl (by kernel_rfl) (fun _ _ _ h => h) (Or.inl ⟨by rfl, ?_⟩) ?_ ?_
                rotate_left
                · intro w'
                  go_simp
                  first | done | with_reducible rfl
                rotate_left
                · simp only [Act.put, List.setIfInBounds_toArray, List.set_cons_zero, List.set_cons_succ, i64_w, i32_w]
                  rfl
                refine pure_ (i := 8) (N := some 79) (v := ?_) (a' := ?_) #[true, true, true, true, true, true, true, true, true, false, false, false, false, false, false, false, false, false, false, false, false, false, false, false, false, false, false] rfl rfl (by kernel_rfl) (fun _ _ _ h => h) (Or.inl ⟨by rfl, ?_⟩) ?_ ?_
                rotate_left
                · intro w'
                  go_simp
                  first | done | with_reducible rfl
                rotate_left
                · simp only [Act.put, List.setIfInBounds_toArray, List.set_cons_zero, List.set_cons_succ, i64_w, i32_w]
                  rfl
                refine take_ (i := 9) (N := some 80) (v := ?_) (a' := ?_) #[true, true, true, true, true, true, true, true, true, true, false, false, false, false, false, false, false, false, false, false, false, false, false, false, false, false, false] rfl rfl (by kernel_rfl) (fun _ _ _ h => h) (Or.inl ⟨by rfl, ?_⟩) hHeld2 ?_ ?_
                rotate_left
                · rintro w' ⟨_, q0, q1, q2, k0, k1, k2, k3, k4, k5, k6, e0, e1, e2, g0, gl, kl, ql, el⟩
                  go_simp
                  first | done | with_reducible rfl
                rotate_left
                · simp only [Act.put, List.setIfInBounds_toArray, List.set_cons_zero, List.set_cons_succ, i64_w, i32_w]
                  rfl
                refine pure_ (i := 11) (N := some 82) (v := ?_) (a' := ?_) #[true, true, true, true, true, true, true, true, true, true, false, true, false, false, false, false, false, false, false, false, false, false, false, false, false, false, false] rfl rfl (by kernel_rfl) (fun _ _ _ h => h) (Or.inl ⟨by rfl, ?_⟩) ?_ ?_
                rotate_left
                · intro w'
                  go_simp
                  first | done | with_reducible rfl
                rotate_left
                · simp only [Act.put, List.setIfInBounds_toArray, List.set_cons_zero, List.set_cons_succ, i64_w, i32_w]
                  rfl
                refine one_ (i := 10) (N := some 81) #[true, true, true, true, true, true, true, true, true, true, true, true, false, false, false, false, false, false, false, false, false, false, false, false, false, false, false] rfl rfl (by kernel_rfl) (by decide) (fun K hK => ?_)
                refine goes_ Tryd.func10 (by kernel_rfl) rfl #[.agg #[.string p.name, .slice A13 (nd + 1) c13, .slice Ab nb cb]] (by rfl) rfl rfl (by (try simp only [List.map_toArray, List.map_cons, List.map_nil]); first | done | rfl) ?_
                have hBw : Below w.heap.size w w16 := HB14.out.1.trans (HB16.out.mono HB14.out.1.size)
                have hcd := nright_any ⟨p.name, p.deps ++ [dep], p.body⟩ A13 Ab (nd + 1) nb c13 cb w16 (by show (p.deps ++ [dep]).length = nd + 1; rw [List.length_append, HD.out.1]; rfl) HD.out.2.1 (Kd.C_below HB14.out.2.2.2.2.2.2 HB16.out) (Kd.C_below HD.out.2.2.2.2.1 hBw) HQ.out.2.1 (by have := H256.out.2; omega) HQ.out.2.2.2
                rw [HV.out.2.1] at hcd
                refine hcd.mono ?_
                rintro e w17 ⟨rfl, hB17⟩
                have HB17 := Lib.hid (HB16.out.trans (hB17.mono HB16.out.size))
                clear hcd hBw hB17
                refine ⟨_, rfl, ?_⟩
                refine hK.out _ _ (HS11.out _ HB17.out) (fun hHeld3 => ?_)
                clear hK K
                refine norm_ (a' := ?_) ?_ ?_
                rotate_left
                · show Act.put _ (some 81) _ = _
                  simp only [Act.put, List.setIfInBounds_toArray, List.set_cons_zero, List.set_cons_succ, i64_w, i32_w]
                  rfl
                refine one_ (i := 12) (N := some 83) #[true, true, true, true, true, true, true, true, true, true, true, true, true, false, false, false, false, false, false, false, false, false, false, false, false, false, false] rfl rfl (by kernel_rfl) (by decide) (fun K hK => ?_)
                refine goes_ Tryd.func15 (by kernel_rfl) rfl #[.string dep] (by rfl) rfl rfl (by (try simp only [List.map_toArray, List.map_cons, List.map_nil]); first | done | rfl) ?_
                refine (HLBL.out w17).mono ?_
                rintro e w18 ⟨rfl, hB18⟩
                have HB18 := Lib.hid (HB17.out.trans (hB18.mono HB17.out.size))
                clear hB18
                refine ⟨_, rfl, ?_⟩
                refine hK.out _ _ (HS11.out _ HB18.out) (fun hHeld4 => ?_)
                clear hK K
                refine norm_ (a' := ?_) ?_ ?_
                rotate_left
                · show Act.put _ (some 83) _ = _
                  simp only [Act.put, List.setIfInBounds_toArray, List.set_cons_zero, List.set_cons_succ, i64_w, i32_w]
                  rfl
                refine pure_ (i := 13) (N := some 84) (v := ?_) (a' := ?_) #[true, true, true, true, true, true, true, true, true, true, true, true, true, true, false, false, false, false, false, false, false, false, false, false, false, false, false] rfl rfl (by kernel_rfl) (fun _ _ _ h => h) (Or.inl ⟨by rfl, ?_⟩) ?_ ?_
                rotate_left
                · intro w'
                  go_simp
                  first | done | with_reducible rfl
                rotate_left
                · simp only [Act.put, List.setIfInBounds_toArray, List.set_cons_zero, List.set_cons_succ, i64_w, i32_w]
                  rfl
                refine pure_ (i := 14) (N := some 85) (v := undef) (a' := ?_) #[true, true, true, true, true, true, true, true, true, true, true, true, true, true, true, false, false, false, false, false, false, false, false, false, false, false, false] rfl rfl (by kernel_rfl) (fun _ _ _ h => h) (Or.inr ⟨by rfl, rfl⟩) ?_ ?_
                rotate_left
                · simp only [Act.put, List.setIfInBounds_toArray, List.set_cons_zero, List.set_cons_succ, i64_w, i32_w]
                  rfl
                refine pure_ (i := 15) (N := some 86) (v := undef) (a' := ?_) #[true, true, true, true, true, true, true, true, true, true, true, true, true, true, true, true, false, false, false, false, false, false, false, false, false, false, false] rfl rfl (by kernel_rfl) (fun _ _ _ h => h) (Or.inr ⟨by rfl, rfl⟩) ?_ ?_
                rotate_left
                · simp only [Act.put, List.setIfInBounds_toArray, List.set_cons_zero, List.set_cons_succ, i64_w, i32_w]
                  rfl
                refine pure_ (i := 16) (N := some 87) (v := undef) (a' := ?_) #[true, true, true, true, true, true, true, true, true, true, true, true, true, true, true, true, true, false, false, false, false, false, false, false, false, false, false] rfl rfl (by kernel_rfl) (fun _ _ _ h => h) (Or.inr ⟨by rfl, rfl⟩) ?_ ?_
                rotate_left
                · simp only [Act.put, List.setIfInBounds_toArray, List.set_cons_zero, List.set_cons_succ, i64_w, i32_w]
                  rfl
                refine pure_ (i := 17) (N := some 88) (v := ?_) (a' := ?_) #[true, true, true, true, true, true, true, true, true, true, true, true, true, true, true, true, true, true, false, false, false, false, false, false, false, false, false] rfl rfl (by kernel_rfl) (fun _ _ _ h => h) (Or.inl ⟨by rfl, ?_⟩) ?_ ?_
                rotate_left
                · intro w'
                  go_simp
                  first | done | with_reducible rfl
                rotate_left
                · simp only [Act.put, List.setIfInBounds_toArray, List.set_cons_zero, List.set_cons_succ, i64_w, i32_w]
                  rfl
                refine pure_ (i := 18) (N := some 89) (v := ?_) (a' := ?_) #[true, true, true, true, true, true, true, true, true, true, true, true, true, true, true, true, true, true, true, false, false, false, false, false, false, false, false] rfl rfl (by kernel_rfl) (fun _ _ _ h => h) (Or.inl ⟨by rfl, ?_⟩) ?_ ?_
                rotate_left
                · intro w'
                  go_simp
                  first | done | with_reducible rfl
                rotate_left
                · simp only [Act.put, List.setIfInBounds_toArray, List.set_cons_zero, List.set_cons_succ, i64_w, i32_w]
                  rfl
                refine pure_ (i := 19) (N := some 90) (v := undef) (a' := ?_) #[true, true, true, true, true, true, true, true, true, true, true, true, true, true, true, true, true, true, true, true, false, false, false, false, false, false, false] rfl rfl (by kernel_rfl) (fun _ _ _ h => h) (Or.inr ⟨by rfl, rfl⟩) ?_ ?_
                rotate_left
                · simp only [Act.put, List.setIfInBounds_toArray, List.set_cons_zero, List.set_cons_succ, i64_w, i32_w]
                  rfl
                refine pure_ (i := 20) (N := some 91) (v := undef) (a' := ?_) #[true, true, true, true, true, true, true, true, true, true, true, true, true, true, true, true, true, true, true, true, true, false, false, false, false, false, false] rfl rfl (by kernel_rfl) (fun _ _ _ h => h) (Or.inr ⟨by rfl, rfl⟩) ?_ ?_
                rotate_left
                · simp only [Act.put, List.setIfInBounds_toArray, List.set_cons_zero, List.set_cons_succ, i64_w, i32_w]
                  rfl
                refine pure_ (i := 21) (N := some 92) (v := undef) (a' := ?_) #[true, true, true, true, true, true, true, true, true, true, true, true, true, true, true, true, true, true, true, true, true, true, false, false, false, false, false] rfl rfl (by kernel_rfl) (fun _ _ _ h => h) (Or.inr ⟨by rfl, rfl⟩) ?_ ?_
                rotate_left
                · simp only [Act.put, List.setIfInBounds_toArray, List.set_cons_zero, List.set_cons_succ, i64_w, i32_w]
                  rfl
                refine pure_ (i := 22) (N := some 93) (v := undef) (a' := ?_) #[true, true, true, true, true, true, true, true, true, true, true, true, true, true, true, true, true, true, true, true, true, true, true, false, false, false, false] rfl rfl (by kernel_rfl) (fun _ _ _ h => h) (Or.inr ⟨by rfl, rfl⟩) ?_ ?_
                rotate_left
                · simp only [Act.put, List.setIfInBounds_toArray, List.set_cons_zero, List.set_cons_succ, i64_w, i32_w]
                  rfl
                refine pure_ (i := 23) (N := some 94) (v := ?_) (a' := ?_) #[true, true, true, true, true, true, true, true, true, true, true, true, true, true, true, true, true, true, true, true, true, true, true, true, false, false, false] rfl rfl (by kernel_rfl) (fun _ _ _ h => h) (Or.inl ⟨by rfl, ?_⟩) ?_ ?_
                rotate_left
                · intro w'
                  go_simp
                  first | done | with_reducible rfl
                rotate_left
                · simp only [Act.put, List.setIfInBounds_toArray, List.set_cons_zero, List.set_cons_succ, i64_w, i32_w]
                  rfl
                refine pure_ (i := 24) (N := some 95) (v := ?_) (a' := ?_) #[true, true, true, true, true, true, true, true, true, true, true, true, true, true, true, true, true, true, true, true, true, true, true, true, true, false, false] rfl rfl (by kernel_rfl) (fun _ _ _ h => h) (Or.inl ⟨by rfl, ?_⟩) ?_ ?_
                rotate_left
                · intro w'
                  go_simp
                  first | done | with_reducible rfl
                rotate_left
                · simp only [Act.put, List.setIfInBounds_toArray, List.set_cons_zero, List.set_cons_succ, i64_w, i32_w]
                  rfl
                refine pure_ (i := 25) (N := some 96) (v := ?_) (a' := ?_) #[true, true, true, true, true, true, true, true, true, true, true, true, true, true, true, true, true, true, true, true, true, true, true, true, true, true, false] rfl rfl (by kernel_rfl) (fun _ _ _ h => h) (Or.inl ⟨by rfl, ?_⟩) ?_ ?_
                rotate_left
                · intro w'
                  go_simp
                  first | done | with_reducible rfl
                rotate_left
                · simp only [Act.put, List.setIfInBounds_toArray, List.set_cons_zero, List.set_cons_succ, i64_w, i32_w]
                  rfl
                refine tail_list 26 (t := [26]) (fuel := 0) rfl rfl rfl (by kernel_rfl) (by decide) ?_
                go_wp2_with fail
                go_ret
                exact ⟨by simp, HB14.out.1.trans (HB18.out.mono HB14.out.1.size)⟩
            | true =>
              cases bf with
              | false =>
                refine start_ (S := fun W => Below w14.heap.size w14 W ∧ W.cell? ⟨qb, 0, none⟩ = some (.string p.name) ∧ W.cell? ⟨qb, 1, none⟩ = some (.slice Ad nd cd) ∧ W.cell? ⟨qb, 2, none⟩ = some (.slice A9 (nb + 1) d9) ∧ W.cell? ⟨w.heap.size + 1, 0, none⟩ = some (.int .i64 x.f0) ∧ W.cell? ⟨w.heap.size + 1, 1, none⟩ = some (.string x.f1) ∧ W.cell? ⟨w.heap.size + 1, 2, none⟩ = some (.string x.f2) ∧ W.cell? ⟨w.heap.size + 1, 3, none⟩ = some (.string x.f3) ∧ W.cell? ⟨w.heap.size + 1, 4, none⟩ = some (.int .i64 x.f4) ∧ W.cell? ⟨w.heap.size + 1, 5, none⟩ = some (.slice A5 x.f5.length c5) ∧ W.cell? ⟨w.heap.size + 1, 6, none⟩ = some (.slice A6 x.f6.length c6) ∧ W.cell? ⟨db, 0, none⟩ = some (.string p.name) ∧ W.cell? ⟨db, 1, none⟩ = some (.slice A13 (nd + 1) c13) ∧ W.cell? ⟨db, 2, none⟩ = some (.slice Ab nb cb) ∧ W.cell? ⟨w.heap.size, 0, none⟩ = some (.string p.name) ∧ w.heap.size < W.heap.size ∧ w.heap.size + 1 < W.heap.size ∧ qb < W.heap.size ∧ db < W.heap.size) (ds := [26]) (n := 27) #[false, false, false, false, false, false, false, false, false, false, false, false, false, false, false, false, false, false, false, false, false, false, false, false, false, false, false] rfl rfl rfl ?hS0 (fun hHeld => ?hrun)
                case hS0 => exact HS11.out _ (Below.refl _ _).drew
                case hrun =>
                  refine pure_ (i := 0) (N := some 71) (v := ?_) (a' := ?_) #[true, false, false, false, false, false, false, false, false, false, false, false, false, false, false, false, false, false, false, false, false, false, false, false, false, false, false] rfl rfl (by kernel_rfl) (fun _ _ _ h => h) (Or.inl ⟨by rfl, ?_⟩) ?_ ?_
                  rotate_left
                  · intro w'
                    go_simp
                    first | done | with_reducible rfl
                  rotate_left
                  · simp only [Act.put, List.setIfInBounds_toArray, List.set_cons_zero, List.set_cons_succ, i64_w, i32_w]
                    rfl
                  refine pure_ (i := 1) (N := some 72) (v := ?_) (a' := ?_) #[true, true, false, false, false, false, false, false, false, false, false, false, false, false, false, false, false, false, false, false, false, false, false, false, false, false, false] rfl rfl (by kernel_rfl) (fun _ _ _ h => h) (Or.inl ⟨by rfl, ?_⟩) ?_ ?_
                  rotate_left
                  · intro w'
                    go_simp
                    first | done | with_reducible rfl
                  rotate_left
                  · simp only [Act.put, List.setIfInBounds_toArray, List.set_cons_zero, List.set_cons_succ, i64_w, i32_w]
                    rfl
                  refine take_ (i := 2) (N := some 73) (v := ?_) (a' := ?_) #[true, true, true, false, false, false, false, false, false, false, false, false, false, false, false, false, false, false, false, false, false, false, false, false, false, false, false] rfl rfl (by kernel_rfl) (fun _ _ _ h => h) (Or.inl ⟨by rfl, ?_⟩) hHeld ?_ ?_
                  rotate_left
                  · rintro w' ⟨_, q0, q1, q2, k0, k1, k2, k3, k4, k5, k6, e0, e1, e2, g0, gl, kl, ql, el⟩
                    go_simp
                    first | done | with_reducible rfl
                  rotate_left
                  · simp only [Act.put, List.setIfInBounds_toArray, List.set_cons_zero, List.set_cons_succ, i64_w, i32_w]
                    rfl
                  refine take_ (i := 4) (N := some 75) (v := ?_) (a' := ?_) #[true, true, true, false, true, false, false, false, false, false, false, false, false, false, false, false, false, false, false, false, false, false, false, false, false, false, false] rfl rfl (by kernel_rfl) (fun _ _ _ h => h) (Or.inl ⟨by rfl, ?_⟩) hHeld ?_ ?_
                  rotate_left
                  · rintro w' ⟨_, q0, q1, q2, k0, k1, k2, k3, k4, k5, k6, e0, e1, e2, g0, gl, kl, ql, el⟩
                    go_simp
                    first | done | with_reducible rfl
                  rotate_left
                  · simp only [Act.put, List.setIfInBounds_toArray, List.set_cons_zero, List.set_cons_succ, i64_w, i32_w]
                    rfl
                  refine one_ (i := 3) (N := some 74) #[true, true, true, true, true, false, false, false, false, false, false, false, false, false, false, false, false, false, false, false, false, false, false, false, false, false, false] rfl rfl (by kernel_rfl) (by decide) (fun K hK => ?_)
                  refine goes_ Tryd.func10 (by kernel_rfl) rfl #[.agg #[.string p.name, .slice Ad nd cd, .slice A9 (nb + 1) d9]] (by rfl) rfl rfl (by (try simp only [List.map_toArray, List.map_cons, List.map_nil]); first | done | rfl) ?_
                  have hBw : Below w.heap.size w w14.drew := HB14.out.1.trans (((Below.refl _ _).drew).mono HB14.out.1.size)
                  have hcq := nright_any ⟨p.name, p.deps, p.body ++ [x]⟩ Ad A9 nd (nb + 1) cd d9 w14.drew HD.out.1 (by show (p.body ++ [x]).length = nb + 1; rw [List.length_append, HD.out.2.1]; rfl) (Kd.C_below HD.out.2.2.1 hBw) (Kd.C_below HB14.out.2.2.2.2.2.1 (Below.refl _ _).drew) HSQ.out (by have := HQ.out.2.2.1; omega) (by have := H256.out.1; omega)
                  rw [HV.out.1] at hcq
                  refine hcq.mono ?_
                  rintro e w15 ⟨rfl, hB15⟩
                  have HB15 := Lib.hid ((Below.refl w14.heap.size w14).drew.trans hB15)
                  clear hcq hBw hB15
                  refine ⟨_, rfl, ?_⟩
                  refine hK.out _ _ (HS11.out _ HB15.out) (fun hHeld1 => ?_)
                  clear hK K
                  refine norm_ (a' := ?_) ?_ ?_
                  rotate_left
                  · show Act.put _ (some 74) _ = _
                    simp only [Act.put, List.setIfInBounds_toArray, List.set_cons_zero, List.set_cons_succ, i64_w, i32_w]
                    rfl
                  refine one_ (i := 5) (N := some 76) #[true, true, true, true, true, true, false, false, false, false, false, false, false, false, false, false, false, false, false, false, false, false, false, false, false, false, false] rfl rfl (by kernel_rfl) (by decide) (fun K hK => ?_)
                  refine goes_ Tryd.func14 (by kernel_rfl) rfl #[.agg #[.int .i64 x.f0, .string x.f1, .string x.f2, .string x.f3, .int .i64 x.f4, .slice A5 x.f5.length c5, .slice A6 x.f6.length c6]] (by rfl) rfl rfl (by (try simp only [List.map_toArray, List.map_cons, List.map_nil]); first | done | rfl) ?_
                  have hBw : Below w.heap.size w w15 := HB14.out.1.trans (HB15.out.mono HB14.out.1.size)
                  have hcx := prim_any x A5 A6 x.f5.length x.f6.length c5 c6 w15 rfl rfl HLX.out.sizes (Kd.C_below HX.out.1.g5 hBw) (Kd.C_below HX.out.1.g6 hBw)
                  rw [← HV.out.2.2.1] at hcx
                  refine hcx.mono ?_
                  rintro e w16 ⟨rfl, hB16⟩
                  have HB16 := Lib.hid (HB15.out.trans (hB16.mono HB15.out.size))
                  clear hcx hBw hB16
                  refine ⟨_, rfl, ?_⟩
                  refine hK.out _ _ (HS11.out _ HB16.out) (fun hHeld2 => ?_)
                  clear hK K
                  refine norm_ (a' := ?_) ?_ ?_
                  rotate_left
                  · show Act.put _ (some 76) _ = _
                    simp only [Act.put, List.setIfInBounds_toArray, List.set_cons_zero, List.set_cons_succ, i64_w, i32_w]
                    rfl
                  refine pure_ (i := 6) (N := some 77) (v := ?_) (a' := ?_) #[true, true, true, true, true, true, true, false, false, false, false, false, false, false, false, false, false, false, false, false, false, false, false, false, false, false, false] rfl rfl (by kernel_rfl) (fun _ _ _ h => h) (Or.inl ⟨by rfl, ?_⟩) ?_ ?_
                  rotate_left
                  · intro w'
                    go_simp
                    first | done | with_reducible rfl
                  rotate_left
                  · simp only [Act.put, List.setIfInBounds_toArray, List.set_cons_zero, List.set_cons_succ, i64_w, i32_w]
                    rfl
                  refine pure_ (i := 7) (N := some 78) (v := ?_) (a' := ?_) #[true, true, true, true, true, true, true, true, false, false, false, false, false, false, false, false, false, false, false, false, false, false, false, false, false, false, false] rfl rfl (by kernel_rfl) (fun _ _ _ h => h) (Or.inl ⟨by rfl, ?_⟩) ?_ ?_
                  rotate_left
                  · intro w'
                    go_simp
                    first | done | with_reducible rfl
                  rotate_left
                  · simp only [Act.put, List.setIfInBounds_toArray, List.set_cons_zero, List.set_cons_succ, i64_w, i32_w]
                    rfl
                  refine pure_ (i := 8) (N := some 79) (v := ?_) (a' := ?_) #[true, true, true, true, true, true, true, true, true, false, false, false, false, false, false, false, false, false, false, false, false, false, false, false, false, false, false] rfl rfl (by kernel_rfl) (fun _ _ _ h => h) (Or.inl ⟨by rfl, ?_⟩) ?_ ?_
                  rotate_left
                  · intro w'
                    go_simp
                    first | done | with_reducible rfl
                  rotate_left
                  · simp only [Act.put, List.setIfInBounds_toArray, List.set_cons_zero, List.set_cons_succ, i64_w, i32_w]
                    rfl
                  refine take_ (i := 9) (N := some 80) (v := ?_) (a' := ?_) #[true, true, true, true, true, true, true, true, true, true, false, false, false, false, false, false, false, false, false, false, false, false, false, false, false, false, false] rfl rfl (by kernel_rfl) (fun _ _ _ h => h) (Or.inl ⟨by rfl, ?_⟩) hHeld2 ?_ ?_
                  rotate_left
                  · rintro w' ⟨_, q0, q1, q2, k0, k1, k2, k3, k4, k5, k6, e0, e1, e2, g0, gl, kl, ql, el⟩
                    go_simp
                    first | done | with_reducible rfl
                  rotate_left
                  · simp only [Act.put, List.setIfInBounds_toArray, List.set_cons_zero, List.set_cons_succ, i64_w, i32_w]
                    rfl
                  refine pure_ (i := 11) (N := some 82) (v := ?_) (a' := ?_) #[true, true, true, true, true, true, true, true, true, true, false, true, false, false, false, false, false, false, false, false, false, false, false, false, false, false, false] rfl rfl (by kernel_rfl) (fun _ _ _ h => h) (Or.inl ⟨by rfl, ?_⟩) ?_ ?_
                  rotate_left
                  · intro w'
                    go_simp
                    first | done | with_reducible rfl
                  rotate_left
                  · simp only [Act.put, List.setIfInBounds_toArray, List.set_cons_zero, List.set_cons_succ, i64_w, i32_w]
                    rfl
                  refine one_ (i := 10) (N := some 81) #[true, true, true, true, true, true, true, true, true, true, true, true, false, false, false, false, false, false, false, false, false, false, false, false, false, false, false] rfl rfl (by kernel_rfl) (by decide) (fun K hK => ?_)
                  refine goes_ Tryd.func10 (by kernel_rfl) rfl #[.agg #[.string p.name, .slice A13 (nd + 1) c13, .slice Ab nb cb]] (by rfl) rfl rfl (by (try simp only [List.map_toArray, List.map_cons, List.map_nil]); first | done | rfl) ?_
                  have hBw : Below w.heap.size w w16 := HB14.out.1.trans (HB16.out.mono HB14.out.1.size)
                  have hcd := nright_any ⟨p.name, p.deps ++ [dep], p.body⟩ A13 Ab (nd + 1) nb c13 cb w16 (by show (p.deps ++ [dep]).length = nd + 1; rw [List.length_append, HD.out.1]; rfl) HD.out.2.1 (Kd.C_below HB14.out.2.2.2.2.2.2 HB16.out) (Kd.C_below HD.out.2.2.2.2.1 hBw) HQ.out.2.1 (by have := H256.out.2; omega) HQ.out.2.2.2
                  rw [HV.out.2.1] at hcd
                  refine hcd.mono ?_
                  rintro e w17 ⟨rfl, hB17⟩
                  have HB17 := Lib.hid (HB16.out.trans (hB17.mono HB16.out.size))
                  clear hcd hBw hB17
                  refine ⟨_, rfl, ?_⟩
                  refine hK.out _ _ (HS11.out _ HB17.out) (fun hHeld3 => ?_)
                  clear hK K
                  refine norm_ (a' := ?_) ?_ ?_
                  rotate_left
                  · show Act.put _ (some 81) _ = _
                    simp only [Act.put, List.setIfInBounds_toArray, List.set_cons_zero, List.set_cons_succ, i64_w, i32_w]
                    rfl
                  refine one_ (i := 12) (N := some 83) #[true, true, true, true, true, true, true, true, true, true, true, true, true, false, false, false, false, false, false, false, false, false, false, false, false, false, false] rfl rfl (by kernel_rfl) (by decide) (fun K hK => ?_)
                  refine goes_ Tryd.func15 (by kernel_rfl) rfl #[.string dep] (by rfl) rfl rfl (by (try simp only [List.map_toArray, List.map_cons, List.map_nil]); first | done | rfl) ?_
                  refine (HLBL.out w17).mono ?_
                  rintro e w18 ⟨rfl, hB18⟩
                  have HB18 := Lib.hid (HB17.out.trans (hB18.mono HB17.out.size))
                  clear hB18
                  refine ⟨_, rfl, ?_⟩
                  refine hK.out _ _ (HS11.out _ HB18.out) (fun hHeld4 => ?_)
                  clear hK K
                  refine norm_ (a' := ?_) ?_ ?_
                  rotate_left
                  · show Act.put _ (some 83) _ = _
                    simp only [Act.put, List.setIfInBounds_toArray, List.set_cons_zero, List.set_cons_succ, i64_w, i32_w]
                    rfl
                  refine pure_ (i := 13) (N := some 84) (v := ?_) (a' := ?_) #[true, true, true, true, true, true, true, true, true, true, true, true, true, true, false, false, false, false, false, false, false, false, false, false, false, false, false] rfl rfl (by kernel_rfl) (fun _ _ _ h => h) (Or.inl ⟨by rfl, ?_⟩) ?_ ?_
                  rotate_left
                  · intro w'
                    go_simp
                    first | done | with_reducible rfl
                  rotate_left
                  · simp only [Act.put, List.setIfInBounds_toArray, List.set_cons_zero, List.set_cons_succ, i64_w, i32_w]
                    rfl
                  refine pure_ (i := 14) (N := some 85) (v := ?_) (a' := ?_) #[true, true, true, true, true, true, true, true, true, true, true, true, true, true, true, false, false, false, false, false, false, false, false, false, false, false, false] rfl rfl (by kernel_rfl) (fun _ _ _ h => h) (Or.inl ⟨by rfl, ?_⟩) ?_ ?_
                  rotate_left
                  · intro w'
                    go_simp
                    first | done | with_reducible rfl
                  rotate_left
                  · simp only [Act.put, List.setIfInBounds_toArray, List.set_cons_zero, List.set_cons_succ, i64_w, i32_w]
                    rfl
                  refine pure_ (i := 15) (N := some 86) (v := ?_) (a' := ?_) #[true, true, true, true, true, true, true, true, true, true, true, true, true, true, true, true, false, false, false, false, false, false, false, false, false, false, false] rfl rfl (by kernel_rfl) (fun _ _ _ h => h) (Or.inl ⟨by rfl, ?_⟩) ?_ ?_
                  rotate_left
                  · intro w'
                    go_simp
                    first | done | with_reducible rfl
                  rotate_left
                  · simp only [Act.put, List.setIfInBounds_toArray, List.set_cons_zero, List.set_cons_succ, i64_w, i32_w]
                    rfl
                  refine pure_ (i := 16) (N := some 87) (v := ?_) (a' := ?_) #[true, true, true, true, true, true, true, true, true, true, true, true, true, true, true, true, true, false, false, false, false, false, false, false, false, false, false] rfl rfl (by kernel_rfl) (fun _ _ _ h => h) (Or.inl ⟨by rfl, ?_⟩) ?_ ?_
                  rotate_left
                  · intro w'
                    go_simp
                    first | done | with_reducible rfl
                  rotate_left
                  · simp only [Act.put, List.setIfInBounds_toArray, List.set_cons_zero, List.set_cons_succ, i64_w, i32_w]
                    rfl
                  refine pure_ (i := 17) (N := some 88) (v := ?_) (a' := ?_) #[true, true, true, true, true, true, true, true, true, true, true, true, true, true, true, true, true, true, false, false, false, false, false, false, false, false, false] rfl rfl (by kernel_rfl) (fun _ _ _ h => h) (Or.inl ⟨by rfl, ?_⟩) ?_ ?_
                  rotate_left
                  · intro w'
                    go_simp
                    first | done | with_reducible rfl
                  rotate_left
                  · simp only [Act.put, List.setIfInBounds_toArray, List.set_cons_zero, List.set_cons_succ, i64_w, i32_w]
                    rfl
                  refine pure_ (i := 18) (N := some 89) (v := ?_) (a' := ?_) #[true, true, true, true, true, true, true, true, true, true, true, true, true, true, true, true, true, true, true, false, false, false, false, false, false, false, false] rfl rfl (by kernel_rfl) (fun _ _ _ h => h) (Or.inl ⟨by rfl, ?_⟩) ?_ ?_
                  rotate_left
                  · intro w'
                    go_simp
                    first | done | with_reducible rfl
                  rotate_left
                  · simp only [Act.put, List.setIfInBounds_toArray, List.set_cons_zero, List.set_cons_succ, i64_w, i32_w]
                    rfl
                  refine pure_ (i := 19) (N := some 90) (v := undef) (a' := ?_) #[true, true, true, true, true, true, true, true, true, true, true, true, true, true, true, true, true, true, true, true, false, false, false, false, false, false, false] rfl rfl (by kernel_rfl) (fun _ _ _ h => h) (Or.inr ⟨by rfl, rfl⟩) ?_ ?_
                  rotate_left
                  · simp only [Act.put, List.setIfInBounds_toArray, List.set_cons_zero, List.set_cons_succ, i64_w, i32_w]
                    rfl
                  refine pure_ (i := 20) (N := some 91) (v := undef) (a' := ?_) #[true, true, true, true, true, true, true, true, true, true, true, true, true, true, true, true, true, true, true, true, true, false, false, false, false, false, false] rfl rfl (by kernel_rfl) (fun _ _ _ h => h) (Or.inr ⟨by rfl, rfl⟩) ?_ ?_
                  rotate_left
                  · simp only [Act.put, List.setIfInBounds_toArray, List.set_cons_zero, List.set_cons_succ, i64_w, i32_w]
                    rfl
                  refine pure_ (i := 21) (N := some 92) (v := undef) (a' := ?_) #[true, true, true, true, true, true, true, true, true, true, true, true, true, true, true, true, true, true, true, true, true, true, false, false, false, false, false] rfl rfl (by kernel_rfl) (fun _ _ _ h => h) (Or.inr ⟨by rfl, rfl⟩) ?_ ?_
                  rotate_left
                  · simp only [Act.put, List.setIfInBounds_toArray, List.set_cons_zero, List.set_cons_succ, i64_w, i32_w]
                    rfl
                  refine pure_ (i := 22) (N := some 93) (v := undef) (a' := ?_) #[true, true, true, true, true, true, true, true, true, true, true, true, true, true, true, true, true, true, true, true, true, true, true, false, false, false, false] rfl rfl (by kernel_rfl) (fun _ _ _ h => h) (Or.inr ⟨by rfl, rfl⟩) ?_ ?_
                  rotate_left
                  · simp only [Act.put, List.setIfInBounds_toArray, List.set_cons_zero, List.set_cons_succ, i64_w, i32_w]
                    rfl
                  refine pure_ (i := 23) (N := some 94) (v := ?_) (a' := ?_) #[true, true, true, true, true, true, true, true, true, true, true, true, true, true, true, true, true, true, true, true, true, true, true, true, false, false, false] rfl rfl (by kernel_rfl) (fun _ _ _ h => h) (Or.inl ⟨by rfl, ?_⟩) ?_ ?_
                  rotate_left
                  · intro w'
                    go_simp
                    first | done | with_reducible rfl
                  rotate_left
                  · simp only [Act.put, List.setIfInBounds_toArray, List.set_cons_zero, List.set_cons_succ, i64_w, i32_w]
                    rfl
                  refine pure_ (i := 24) (N := some 95) (v := ?_) (a' := ?_) #[true, true, true, true, true, true, true, true, true, true, true, true, true, true, true, true, true, true, true, true, true, true, true, true, true, false, false] rfl rfl (by kernel_rfl) (fun _ _ _ h => h) (Or.inl ⟨by rfl, ?_⟩) ?_ ?_
                  rotate_left
                  · intro w'
                    go_simp
                    first | done | with_reducible rfl
                  rotate_left
                  · simp only [Act.put, List.setIfInBounds_toArray, List.set_cons_zero, List.set_cons_succ, i64_w, i32_w]
                    rfl
                  refine pure_ (i := 25) (N := some 96) (v := ?_) (a' := ?_) #[true, true, true, true, true, true, true, true, true, true, true, true, true, true, true, true, true, true, true, true, true, true, true, true, true, true, false] rfl rfl (by kernel_rfl) (fun _ _ _ h => h) (Or.inl ⟨by rfl, ?_⟩) ?_ ?_
                  rotate_left
                  · intro w'
                    go_simp
                    first | done | with_reducible rfl
                  rotate_left
                  · simp only [Act.put, List.setIfInBounds_toArray, List.set_cons_zero, List.set_cons_succ, i64_w, i32_w]
                    rfl
                  refine tail_list 26 (t := [26]) (fuel := 0) rfl rfl rfl (by kernel_rfl) (by decide) ?_
                  go_wp2_with fail
                  go_ret
                  exact ⟨by simp, HB14.out.1.trans (HB18.out.mono HB14.out.1.size)⟩
              | true =>
                refine start_ (S := fun W => Below w14.heap.size w14 W ∧ W.cell? ⟨qb, 0, none⟩ = some (.string p.name) ∧ W.cell? ⟨qb, 1, none⟩ = some (.slice Ad nd cd) ∧ W.cell? ⟨qb, 2, none⟩ = some (.slice A9 (nb + 1) d9) ∧ W.cell? ⟨w.heap.size + 1, 0, none⟩ = some (.int .i64 x.f0) ∧ W.cell? ⟨w.heap.size + 1, 1, none⟩ = some (.string x.f1) ∧ W.cell? ⟨w.heap.size + 1, 2, none⟩ = some (.string x.f2) ∧ W.cell? ⟨w.heap.size + 1, 3, none⟩ = some (.string x.f3) ∧ W.cell? ⟨w.heap.size + 1, 4, none⟩ = some (.int .i64 x.f4) ∧ W.cell? ⟨w.heap.size + 1, 5, none⟩ = some (.slice A5 x.f5.length c5) ∧ W.cell? ⟨w.heap.size + 1, 6, none⟩ = some (.slice A6 x.f6.length c6) ∧ W.cell? ⟨db, 0, none⟩ = some (.string p.name) ∧ W.cell? ⟨db, 1, none⟩ = some (.slice A13 (nd + 1) c13) ∧ W.cell? ⟨db, 2, none⟩ = some (.slice Ab nb cb) ∧ W.cell? ⟨w.heap.size, 0, none⟩ = some (.string p.name) ∧ w.heap.size < W.heap.size ∧ w.heap.size + 1 < W.heap.size ∧ qb < W.heap.size ∧ db < W.heap.size) (ds := [26]) (n := 27) #[false, false, false, false, false, false, false, false, false, false, false, false, false, false, false, false, false, false, false, false, false, false, false, false, false, false, false] rfl rfl rfl ?hS0 (fun hHeld => ?hrun)
                case hS0 => exact HS11.out _ (Below.refl _ _).drew
                case hrun =>
                  refine pure_ (i := 0) (N := some 71) (v := ?_) (a' := ?_) #[true, false, false, false, false, false, false, false, false, false, false, false, false, false, false, false, false, false, false, false, false, false, false, false, false, false, false] rfl rfl (by kernel_rfl) (fun _ _ _ h => h) (Or.inl ⟨by rfl, ?_⟩) ?_ ?_
                  rotate_left
                  · intro w'
                    go_simp
                    first | done | with_reducible rfl
                  rotate_left
                  · simp only [Act.put, List.setIfInBounds_toArray, List.set_cons_zero, List.set_cons_succ, i64_w, i32_w]
                    rfl
                  refine pure_ (i := 1) (N := some 72) (v := ?_) (a' := ?_) #[true, true, false, false, false, false, false, false, false, false, false, false, false, false, false, false, false, false, false, false, false, false, false, false, false, false, false] rfl rfl (by kernel_rfl) (fun _ _ _ h => h) (Or.inl ⟨by rfl, ?_⟩) ?_ ?_
                  rotate_left
                  · intro w'
                    go_simp
                    first | done | with_reducible rfl
                  rotate_left
                  · simp only [Act.put, List.setIfInBounds_toArray, List.set_cons_zero, List.set_cons_succ, i64_w, i32_w]
                    rfl
                  refine take_ (i := 2) (N := some 73) (v := ?_) (a' := ?_) #[true, true, true, false, false, false, false, false, false, false, false, false, false, false, false, false, false, false, false, false, false, false, false, false, false, false, false] rfl rfl (by kernel_rfl) (fun _ _ _ h => h) (Or.inl ⟨by rfl, ?_⟩) hHeld ?_ ?_
                  rotate_left
                  · rintro w' ⟨_, q0, q1, q2, k0, k1, k2, k3, k4, k5, k6, e0, e1, e2, g0, gl, kl, ql, el⟩
                    go_simp
                    first | done | with_reducible rfl
                  rotate_left
                  · simp only [Act.put, List.setIfInBounds_toArray, List.set_cons_zero, List.set_cons_succ, i64_w, i32_w]
                    rfl
                  refine take_ (i := 4) (N := some 75) (v := ?_) (a' := ?_) #[true, true, true, false, true, false, false, false, false, false, false, false, false, false, false, false, false, false, false, false, false, false, false, false, false, false, false] rfl rfl (by kernel_rfl) (fun _ _ _ h => h) (Or.inl ⟨by rfl, ?_⟩) hHeld ?_ ?_
                  rotate_left
                  · rintro w' ⟨_, q0, q1, q2, k0, k1, k2, k3, k4, k5, k6, e0, e1, e2, g0, gl, kl, ql, el⟩
                    go_simp
                    first | done | with_reducible rfl
                  rotate_left
                  · simp only [Act.put, List.setIfInBounds_toArray, List.set_cons_zero, List.set_cons_succ, i64_w, i32_w]
                    rfl
                  refine one_ (i := 3) (N := some 74) #[true, true, true, true, true, false, false, false, false, false, false, false, false, false, false, false, false, false, false, false, false, false, false, false, false, false, false] rfl rfl (by kernel_rfl) (by decide) (fun K hK => ?_)
                  refine goes_ Tryd.func10 (by kernel_rfl) rfl #[.agg #[.string p.name, .slice Ad nd cd, .slice A9 (nb + 1) d9]] (by rfl) rfl rfl (by (try simp only [List.map_toArray, List.map_cons, List.map_nil]); first | done | rfl) ?_
                  have hBw : Below w.heap.size w w14.drew := HB14.out.1.trans (((Below.refl _ _).drew).mono HB14.out.1.size)
                  have hcq := nright_any ⟨p.name, p.deps, p.body ++ [x]⟩ Ad A9 nd (nb + 1) cd d9 w14.drew HD.out.1 (by show (p.body ++ [x]).length = nb + 1; rw [List.length_append, HD.out.2.1]; rfl) (Kd.C_below HD.out.2.2.1 hBw) (Kd.C_below HB14.out.2.2.2.2.2.1 (Below.refl _ _).drew) HSQ.out (by have := HQ.out.2.2.1; omega) (by have := H256.out.1; omega)
                  rw [HV.out.1] at hcq
                  refine hcq.mono ?_
                  rintro e w15 ⟨rfl, hB15⟩
                  have HB15 := Lib.hid ((Below.refl w14.heap.size w14).drew.trans hB15)
                  clear hcq hBw hB15
                  refine ⟨_, rfl, ?_⟩
                  refine hK.out _ _ (HS11.out _ HB15.out) (fun hHeld1 => ?_)
                  clear hK K
                  refine norm_ (a' := ?_) ?_ ?_
                  rotate_left
                  · show Act.put _ (some 74) _ = _
                    simp only [Act.put, List.setIfInBounds_toArray, List.set_cons_zero, List.set_cons_succ, i64_w, i32_w]
                    rfl
                  refine one_ (i := 5) (N := some 76) #[true, true, true, true, true, true, false, false, false, false, false, false, false, false, false, false, false, false, false, false, false, false, false, false, false, false, false] rfl rfl (by kernel_rfl) (by decide) (fun K hK => ?_)
                  refine goes_ Tryd.func14 (by kernel_rfl) rfl #[.agg #[.int .i64 x.f0, .string x.f1, .string x.f2, .string x.f3, .int .i64 x.f4, .slice A5 x.f5.length c5, .slice A6 x.f6.length c6]] (by rfl) rfl rfl (by (try simp only [List.map_toArray, List.map_cons, List.map_nil]); first | done | rfl) ?_
                  have hBw : Below w.heap.size w w15 := HB14.out.1.trans (HB15.out.mono HB14.out.1.size)
                  have hcx := prim_any x A5 A6 x.f5.length x.f6.length c5 c6 w15 rfl rfl HLX.out.sizes (Kd.C_below HX.out.1.g5 hBw) (Kd.C_below HX.out.1.g6 hBw)
                  rw [← HV.out.2.2.1] at hcx
                  refine hcx.mono ?_
                  rintro e w16 ⟨rfl, hB16⟩
                  have HB16 := Lib.hid (HB15.out.trans (hB16.mono HB15.out.size))
                  clear hcx hBw hB16
                  refine ⟨_, rfl, ?_⟩
                  refine hK.out _ _ (HS11.out _ HB16.out) (fun hHeld2 => ?_)
                  clear hK K
                  refine norm_ (a' := ?_) ?_ ?_
                  rotate_left
                  · show Act.put _ (some 76) _ = _
                    simp only [Act.put, List.setIfInBounds_toArray, List.set_cons_zero, List.set_cons_succ, i64_w, i32_w]
                    rfl
                  refine pure_ (i := 6) (N := some 77) (v := ?_) (a' := ?_) #[true, true, true, true, true, true, true, false, false, false, false, false, false, false, false, false, false, false, false, false, false, false, false, false, false, false, false] rfl rfl (by kernel_rfl) (fun _ _ _ h => h) (Or.inl ⟨by rfl, ?_⟩) ?_ ?_
                  rotate_left
                  · intro w'
                    go_simp
                    first | done | with_reducible rfl
                  rotate_left
                  · simp only [Act.put, List.setIfInBounds_toArray, List.set_cons_zero, List.set_cons_succ, i64_w, i32_w]
                    rfl
                  refine pure_ (i := 7) (N := some 78) (v := ?_) (a' := ?_) #[true, true, true, true, true, true, true, true, false, false, false, false, false, false, false, false, false, false, false, false, false, false, false, false, false, false, false] rfl rfl (by kernel_rfl) (fun _ _ _ h => h) (Or.inl ⟨by rfl, ?_⟩) ?_ ?_
                  rotate_left
                  · intro w'
                    go_simp
                    first | done | with_reducible rfl
                  rotate_left
                  · simp only [Act.put, List.setIfInBounds_toArray, List.set_cons_zero, List.set_cons_succ, i64_w, i32_w]
                    rfl
                  refine pure_ (i := 8) (N := some 79) (v := ?_) (a' := ?_) #[true, true, true, true, true, true, true, true, true, false, false, false, false, false, false, false, false, false, false, false, false, false, false, false, false, false, false] rfl rfl (by kernel_rfl) (fun _ _ _ h => h) (Or.inl ⟨by rfl, ?_⟩) ?_ ?_
                  rotate_left
                  · intro w'
                    go_simp
                    first | done | with_reducible rfl
                  rotate_left
                  · simp only [Act.put, List.setIfInBounds_toArray, List.set_cons_zero, List.set_cons_succ, i64_w, i32_w]
                    rfl
                  refine take_ (i := 9) (N := some 80) (v := ?_) (a' := ?_) #[true, true, true, true, true, true, true, true, true, true, false, false, false, false, false, false, false, false, false, false, false, false, false, false, false, false, false] rfl rfl (by kernel_rfl) (fun _ _ _ h => h) (Or.inl ⟨by rfl, ?_⟩) hHeld2 ?_ ?_
                  rotate_left
                  · rintro w' ⟨_, q0, q1, q2, k0, k1, k2, k3, k4, k5, k6, e0, e1, e2, g0, gl, kl, ql, el⟩
                    go_simp
                    first | done | with_reducible rfl
                  rotate_left
                  · simp only [Act.put, List.setIfInBounds_toArray, List.set_cons_zero, List.set_cons_succ, i64_w, i32_w]
                    rfl
                  refine pure_ (i := 11) (N := some 82) (v := ?_) (a' := ?_) #[true, true, true, true, true, true, true, true, true, true, false, true, false, false, false, false, false, false, false, false, false, false, false, false, false, false, false] rfl rfl (by kernel_rfl) (fun _ _ _ h => h) (Or.inl ⟨by rfl, ?_⟩) ?_ ?_
                  rotate_left
                  · intro w'
                    go_simp
                    first | done | with_reducible rfl
                  rotate_left
                  · simp only [Act.put, List.setIfInBounds_toArray, List.set_cons_zero, List.set_cons_succ, i64_w, i32_w]
                    rfl
                  refine one_ (i := 10) (N := some 81) #[true, true, true, true, true, true, true, true, true, true, true, true, false, false, false, false, false, false, false, false, false, false, false, false, false, false, false] rfl rfl (by kernel_rfl) (by decide) (fun K hK => ?_)
                  refine goes_ Tryd.func10 (by kernel_rfl) rfl #[.agg #[.string p.name, .slice A13 (nd + 1) c13, .slice Ab nb cb]] (by rfl) rfl rfl (by (try simp only [List.map_toArray, List.map_cons, List.map_nil]); first | done | rfl) ?_
                  have hBw : Below w.heap.size w w16 := HB14.out.1.trans (HB16.out.mono HB14.out.1.size)
                  have hcd := nright_any ⟨p.name, p.deps ++ [dep], p.body⟩ A13 Ab (nd + 1) nb c13 cb w16 (by show (p.deps ++ [dep]).length = nd + 1; rw [List.length_append, HD.out.1]; rfl) HD.out.2.1 (Kd.C_below HB14.out.2.2.2.2.2.2 HB16.out) (Kd.C_below HD.out.2.2.2.2.1 hBw) HQ.out.2.1 (by have := H256.out.2; omega) HQ.out.2.2.2
                  rw [HV.out.2.1] at hcd
                  refine hcd.mono ?_
                  rintro e w17 ⟨rfl, hB17⟩
                  have HB17 := Lib.hid (HB16.out.trans (hB17.mono HB16.out.size))
                  clear hcd hBw hB17
                  refine ⟨_, rfl, ?_⟩
                  refine hK.out _ _ (HS11.out _ HB17.out) (fun hHeld3 => ?_)
                  clear hK K
                  refine norm_ (a' := ?_) ?_ ?_
                  rotate_left
                  · show Act.put _ (some 81) _ = _
                    simp only [Act.put, List.setIfInBounds_toArray, List.set_cons_zero, List.set_cons_succ, i64_w, i32_w]
                    rfl
                  refine one_ (i := 12) (N := some 83) #[true, true, true, true, true, true, true, true, true, true, true, true, true, false, false, false, false, false, false, false, false, false, false, false, false, false, false] rfl rfl (by kernel_rfl) (by decide) (fun K hK => ?_)
                  refine goes_ Tryd.func15 (by kernel_rfl) rfl #[.string dep] (by rfl) rfl rfl (by (try simp only [List.map_toArray, List.map_cons, List.map_nil]); first | done | rfl) ?_
                  refine (HLBL.out w17).mono ?_
                  rintro e w18 ⟨rfl, hB18⟩
                  have HB18 := Lib.hid (HB17.out.trans (hB18.mono HB17.out.size))
                  clear hB18
                  refine ⟨_, rfl, ?_⟩
                  refine hK.out _ _ (HS11.out _ HB18.out) (fun hHeld4 => ?_)
                  clear hK K
                  refine norm_ (a' := ?_) ?_ ?_
                  rotate_left
                  · show Act.put _ (some 83) _ = _
                    simp only [Act.put, List.setIfInBounds_toArray, List.set_cons_zero, List.set_cons_succ, i64_w, i32_w]
                    rfl
                  refine pure_ (i := 13) (N := some 84) (v := ?_) (a' := ?_) #[true, true, true, true, true, true, true, true, true, true, true, true, true, true, false, false, false, false, false, false, false, false, false, false, false, false, false] rfl rfl (by kernel_rfl) (fun _ _ _ h => h) (Or.inl ⟨by rfl, ?_⟩) ?_ ?_
                  rotate_left
                  · intro w'
                    go_simp
                    first | done | with_reducible rfl
                  rotate_left
                  · simp only [Act.put, List.setIfInBounds_toArray, List.set_cons_zero, List.set_cons_succ, i64_w, i32_w]
                    rfl
                  refine pure_ (i := 14) (N := some 85) (v := ?_) (a' := ?_) #[true, true, true, true, true, true, true, true, true, true, true, true, true, true, true, false, false, false, false, false, false, false, false, false, false, false, false] rfl rfl (by kernel_rfl) (fun _ _ _ h => h) (Or.inl ⟨by rfl, ?_⟩) ?_ ?_
                  rotate_left
                  · intro w'
                    go_simp
                    first | done | with_reducible rfl
                  rotate_left
                  · simp only [Act.put, List.setIfInBounds_toArray, List.set_cons_zero, List.set_cons_succ, i64_w, i32_w]
                    rfl
                  refine pure_ (i := 15) (N := some 86) (v := ?_) (a' := ?_) #[true, true, true, true, true, true, true, true, true, true, true, true, true, true, true, true, false, false, false, false, false, false, false, false, false, false, false] rfl rfl (by kernel_rfl) (fun _ _ _ h => h) (Or.inl ⟨by rfl, ?_⟩) ?_ ?_
                  rotate_left
                  · intro w'
                    go_simp
                    first | done | with_reducible rfl
                  rotate_left
                  · simp only [Act.put, List.setIfInBounds_toArray, List.set_cons_zero, List.set_cons_succ, i64_w, i32_w]
                    rfl
                  refine pure_ (i := 16) (N := some 87) (v := ?_) (a' := ?_) #[true, true, true, true, true, true, true, true, true, true, true, true, true, true, true, true, true, false, false, false, false, false, false, false, false, false, false] rfl rfl (by kernel_rfl) (fun _ _ _ h => h) (Or.inl ⟨by rfl, ?_⟩) ?_ ?_
                  rotate_left
                  · intro w'
                    go_simp
                    first | done | with_reducible rfl
                  rotate_left
                  · simp only [Act.put, List.setIfInBounds_toArray, List.set_cons_zero, List.set_cons_succ, i64_w, i32_w]
                    rfl
                  refine pure_ (i := 17) (N := some 88) (v := ?_) (a' := ?_) #[true, true, true, true, true, true, true, true, true, true, true, true, true, true, true, true, true, true, false, false, false, false, false, false, false, false, false] rfl rfl (by kernel_rfl) (fun _ _ _ h => h) (Or.inl ⟨by rfl, ?_⟩) ?_ ?_
                  rotate_left
                  · intro w'
                    go_simp
                    first | done | with_reducible rfl
                  rotate_left
                  · simp only [Act.put, List.setIfInBounds_toArray, List.set_cons_zero, List.set_cons_succ, i64_w, i32_w]
                    rfl
                  refine pure_ (i := 18) (N := some 89) (v := ?_) (a' := ?_) #[true, true, true, true, true, true, true, true, true, true, true, true, true, true, true, true, true, true, true, false, false, false, false, false, false, false, false] rfl rfl (by kernel_rfl) (fun _ _ _ h => h) (Or.inl ⟨by rfl, ?_⟩) ?_ ?_
                  rotate_left
                  · intro w'
                    go_simp
                    first | done | with_reducible rfl
                  rotate_left
                  · simp only [Act.put, List.setIfInBounds_toArray, List.set_cons_zero, List.set_cons_succ, i64_w, i32_w]
                    rfl
                  refine pure_ (i := 19) (N := some 90) (v := ?_) (a' := ?_) #[true, true, true, true, true, true, true, true, true, true, true, true, true, true, true, true, true, true, true, true, false, false, false, false, false, false, false] rfl rfl (by kernel_rfl) (fun _ _ _ h => h) (Or.inl ⟨by rfl, ?_⟩) ?_ ?_
                  rotate_left
                  · intro w'
                    go_simp
                    first | done | with_reducible rfl
                  rotate_left
                  · simp only [Act.put, List.setIfInBounds_toArray, List.set_cons_zero, List.set_cons_succ, i64_w, i32_w]
                    rfl
                  refine pure_ (i := 20) (N := some 91) (v := ?_) (a' := ?_) #[true, true, true, true, true, true, true, true, true, true, true, true, true, true, true, true, true, true, true, true, true, false, false, false, false, false, false] rfl rfl (by kernel_rfl) (fun _ _ _ h => h) (Or.inl ⟨by rfl, ?_⟩) ?_ ?_
                  rotate_left
                  · intro w'
                    go_simp
                    first | done | with_reducible rfl
                  rotate_left
                  · simp only [Act.put, List.setIfInBounds_toArray, List.set_cons_zero, List.set_cons_succ, i64_w, i32_w]
                    rfl
                  refine take_ (i := 21) (N := some 92) (v := ?_) (a' := ?_) #[true, true, true, true, true, true, true, true, true, true, true, true, true, true, true, true, true, true, true, true, true, true, false, false, false, false, false] rfl rfl (by kernel_rfl) (fun _ _ _ h => h) (Or.inl ⟨by rfl, ?_⟩) hHeld4 ?_ ?_
                  rotate_left
                  · rintro w' ⟨_, q0, q1, q2, k0, k1, k2, k3, k4, k5, k6, e0, e1, e2, g0, gl, kl, ql, el⟩
                    go_simp
                    first | done | with_reducible rfl
                  rotate_left
                  · simp only [Act.put, List.setIfInBounds_toArray, List.set_cons_zero, List.set_cons_succ, i64_w, i32_w]
                    rfl
                  refine pure_ (i := 22) (N := some 93) (v := ?_) (a' := ?_) #[true, true, true, true, true, true, true, true, true, true, true, true, true, true, true, true, true, true, true, true, true, true, true, false, false, false, false] rfl rfl (by kernel_rfl) (fun _ _ _ h => h) (Or.inl ⟨by rfl, ?_⟩) ?_ ?_
                  rotate_left
                  · intro w'
                    go_simp
                    first | done | with_reducible rfl
                  rotate_left
                  · simp only [Act.put, List.setIfInBounds_toArray, List.set_cons_zero, List.set_cons_succ, i64_w, i32_w]
                    rfl
                  refine pure_ (i := 23) (N := some 94) (v := ?_) (a' := ?_) #[true, true, true, true, true, true, true, true, true, true, true, true, true, true, true, true, true, true, true, true, true, true, true, true, false, false, false] rfl rfl (by kernel_rfl) (fun _ _ _ h => h) (Or.inl ⟨by rfl, ?_⟩) ?_ ?_
                  rotate_left
                  · intro w'
                    go_simp
                    first | done | with_reducible rfl
                  rotate_left
                  · simp only [Act.put, List.setIfInBounds_toArray, List.set_cons_zero, List.set_cons_succ, i64_w, i32_w]
                    rfl
                  refine pure_ (i := 24) (N := some 95) (v := ?_) (a' := ?_) #[true, true, true, true, true, true, true, true, true, true, true, true, true, true, true, true, true, true, true, true, true, true, true, true, true, false, false] rfl rfl (by kernel_rfl) (fun _ _ _ h => h) (Or.inl ⟨by rfl, ?_⟩) ?_ ?_
                  rotate_left
                  · intro w'
                    go_simp
                    first | done | with_reducible rfl
                  rotate_left
                  · simp only [Act.put, List.setIfInBounds_toArray, List.set_cons_zero, List.set_cons_succ, i64_w, i32_w]
                    rfl
                  refine pure_ (i := 25) (N := some 96) (v := ?_) (a' := ?_) #[true, true, true, true, true, true, true, true, true, true, true, true, true, true, true, true, true, true, true, true, true, true, true, true, true, true, false] rfl rfl (by kernel_rfl) (fun _ _ _ h => h) (Or.inl ⟨by rfl, ?_⟩) ?_ ?_
                  rotate_left
                  · intro w'
                    go_simp
                    first | done | with_reducible rfl
                  rotate_left
                  · simp only [Act.put, List.setIfInBounds_toArray, List.set_cons_zero, List.set_cons_succ, i64_w, i32_w]
                    rfl
                  refine tail_list 26 (t := [26]) (fuel := 0) rfl rfl rfl (by kernel_rfl) (by decide) ?_
                  go_wp2_with fail
                  go_ret
                  exact ⟨by simp, HB14.out.1.trans (HB18.out.mono HB14.out.1.size)⟩
          have HREST11 := Lib.hid REST11
          clear hK11 REST11 hrr hnn hbf2 hrn2 hrn3
          rcases Nat.eq_zero_or_pos nd with hn0 | hn0
          · have hn0I : ¬ (0 : Int) < (nd : Int) := by omega
            have hlast0 : last = ⟨#[]⟩ := by
              rw [HV.out.2.2.2]
              unfold lastOf
              rw [List.eq_nil_of_length_eq_zero (show p.deps.length = 0 by rw [HD.out.1]; exact hn0)]
              rfl
            have hr := HREST11.out
            rw [hlast0] at hr
            have HR0 := Lib.hid hr
            clear hn0 hlast0 hr HREST11
            go_wp2_with fail
            exact HR0.out _ _ _ _ _ _ _ _ _ _ _ _
          · have hn0I : (0 : Int) < (nd : Int) := by omega
            obtain ⟨ad, ea, hcl⟩ := at_str (Kd.C_below HD.out.2.2.1 HB14.out.1) (nd - 1) (by omega)
            subst ea
            have hll : p.deps.getD (nd - 1) ⟨#[]⟩ = last := by rw [HV.out.2.2.2, ← HD.out.1]; rfl
            rw [hll] at hcl
            have hiI : (nd : Int) - 1 = ((nd - 1 : Nat) : Int) := by omega
            have hi0 : (0 : Int) ≤ (((nd - 1 : Nat)) : Int) := by omega
            have hi1 : (((nd - 1 : Nat)) : Int) < (nd : Int) := by omega
            clear hn0 hll
            go_wp2_with fail
            exact HREST11.out _ _ _ _ _ _ _ _ _ _ _ _
        clear hK5
        have hS0 : ∀ W, Below w6.heap.size w6 W → Below w6.heap.size w6 W ∧ W.cell? ⟨w.heap.size, 2, none⟩ = some (.slice Ab nb cb) ∧ W.cell? ⟨w.heap.size + 1, 0, none⟩ = some (.int .i64 x.f0) ∧ W.cell? ⟨w.heap.size + 1, 1, none⟩ = some (.string x.f1) ∧ W.cell? ⟨w.heap.size + 1, 2, none⟩ = some (.string x.f2) ∧ W.cell? ⟨w.heap.size + 1, 3, none⟩ = some (.string x.f3) ∧ W.cell? ⟨w.heap.size + 1, 4, none⟩ = some (.int .i64 x.f4) ∧ W.cell? ⟨w.heap.size + 1, 5, none⟩ = some (.slice A5 x.f5.length c5) ∧ W.cell? ⟨w.heap.size + 1, 6, none⟩ = some (.slice A6 x.f6.length c6) ∧ w.heap.size < W.heap.size ∧ w.heap.size + 1 < W.heap.size := fun W hB => by
          obtain ⟨g0, g1, g2⟩ := cells3p (blk_below HB6.out.2.1 hB)
          obtain ⟨k0, k1, k2, k3, k4, k5, k6⟩ := cells7p (blk_below HB6.out.2.2.1 hB)
          exact ⟨hB, g2, k0, k1, k2, k3, k4, k5, k6, blk_lt (blk_below HB6.out.2.1 hB), blk_lt (blk_below HB6.out.2.2.1 hB)⟩
        have HS0 := Lib.hid hS0
        clear hS0
        refine start_ (S := fun W => Below w6.heap.size w6 W ∧ W.cell? ⟨w.heap.size, 2, none⟩ = some (.slice Ab nb cb) ∧ W.cell? ⟨w.heap.size + 1, 0, none⟩ = some (.int .i64 x.f0) ∧ W.cell? ⟨w.heap.size + 1, 1, none⟩ = some (.string x.f1) ∧ W.cell? ⟨w.heap.size + 1, 2, none⟩ = some (.string x.f2) ∧ W.cell? ⟨w.heap.size + 1, 3, none⟩ = some (.string x.f3) ∧ W.cell? ⟨w.heap.size + 1, 4, none⟩ = some (.int .i64 x.f4) ∧ W.cell? ⟨w.heap.size + 1, 5, none⟩ = some (.slice A5 x.f5.length c5) ∧ W.cell? ⟨w.heap.size + 1, 6, none⟩ = some (.slice A6 x.f6.length c6) ∧ w.heap.size < W.heap.size ∧ w.heap.size + 1 < W.heap.size) (ds := [6, 7, 8]) (n := 9) #[false, false, false, false, false, false, false, false, false] rfl rfl rfl ?hS0 (fun hHeld => ?hrun)
        case hS0 => exact HS0.out _ (Below.refl _ _).drew
        case hrun =>
          refine pure_ (i := 1) (N := some 43) (v := ?_) (a' := ?_) #[false, true, false, false, false, false, false, false, false] rfl rfl (by kernel_rfl) (fun _ _ _ h => h) (Or.inl ⟨by rfl, ?_⟩) ?_ ?_
          rotate_left
          · intro w'
            go_simp
            first | done | with_reducible rfl
          rotate_left
          · simp only [Act.put, List.setIfInBounds_toArray, List.set_cons_zero, List.set_cons_succ, i64_w, i32_w]
            rfl
          refine take_ (i := 2) (N := some 44) (v := ?_) (a' := ?_) #[false, true, true, false, false, false, false, false, false] rfl rfl (by kernel_rfl) (fun _ _ _ h => h) (Or.inl ⟨by rfl, ?_⟩) hHeld ?_ ?_
          rotate_left
          · rintro w' ⟨_, g2, k0, k1, k2, k3, k4, k5, k6, gl, kl⟩
            go_simp
            first | done | with_reducible rfl
          rotate_left
          · simp only [Act.put, List.setIfInBounds_toArray, List.set_cons_zero, List.set_cons_succ, i64_w, i32_w]
            rfl
          refine take_ (i := 4) (N := some 46) (v := ?_) (a' := ?_) #[false, true, true, false, true, false, false, false, false] rfl rfl (by kernel_rfl) (fun _ _ _ h => h) (Or.inl ⟨by rfl, ?_⟩) hHeld ?_ ?_
          rotate_left
          · rintro w' ⟨_, g2, k0, k1, k2, k3, k4, k5, k6, gl, kl⟩
            go_simp
            first | done | with_reducible rfl
          rotate_left
          · simp only [Act.put, List.setIfInBounds_toArray, List.set_cons_zero, List.set_cons_succ, i64_w, i32_w]
            rfl
          refine two_ (i := 0) (j := 5) (Ni := some 42) (Nj := some 47) #[true, true, true, false, true, false, false, false, false] #[false, true, true, false, true, true, false, false, false] rfl rfl rfl rfl (by kernel_rfl) (by decide) (by decide) (fun K hK => ?_) (fun K hK => ?_)
          · skip
            refine value_ (by rfl) rfl (by go_simp; first | rfl | exact ⟨rfl, rfl⟩) ?_
            refine hK.out _ _ (HS0.out _ (by repeat (first | exact Below.refl _ _ | apply Below.drew | refine Below.alloc ?_ (by simp) _))) (fun hHeld1 => ?_)
            clear hK K
            refine norm_ (a' := ?_) ?_ ?_
            rotate_left
            · show Act.put _ (some 42) _ = _
              simp only [Act.put, List.setIfInBounds_toArray, List.set_cons_zero, List.set_cons_succ, i64_w, i32_w]
              rfl
            refine two_ (i := 3) (j := 5) (Ni := some 45) (Nj := some 47) #[true, true, true, true, true, false, false, false, false] #[true, true, true, false, true, true, false, false, false] rfl rfl rfl rfl (by kernel_rfl) (by decide) (by decide) (fun K hK => ?_) (fun K hK => ?_)
            · skip
              refine Kd.N_append_rows_step (w0 := w6) kPrm w6.heap.size (by rfl) _ _ 23 39 (.agg #[.int .i64 0, .string ⟨#[]⟩, .string ⟨#[]⟩, .string ⟨#[]⟩, .int .i64 0, .slice none 0 0, .slice none 0 0]) 112 (by rfl) Tryd.underlying23 infoPN rfl (by decide) (by decide) (.slice (some ⟨w6.heap.size, 0, none⟩) 0 0) [] p.body Ab nb cb (fun k => k ≠ qb) (fun k => k < w.heap.size) (by rfl) (by rfl) ?ho3 ?hr3 ?hokp3 ?hfresh3 ?hb3 ?hbase3 ?hl3 ?hk3
              case ho3 => exact N_emptyq (by exact heap_alloc_new w6 _) (by omega) (by have := HB6.out.2.2.2.2.2; omega)
              case hr3 => exact F_body HD.out.2.2.2.2.1 (HB6.out.1.trans (Below.mono (by repeat (first | exact Below.refl _ _ | apply Below.drew | refine Below.alloc ?_ (by simp) _)) HB6.out.1.size))
              case hokp3 => exact fun k hk => ⟨by have := HB6.out.2.2.2.2.1; omega, fun e => by simp [Value.ownBlock] at e; have := HB6.out.2.2.2.2.1; have := HB6.out.2.2.2.2.2; omega⟩
              case hfresh3 =>
                intro k hk e
                simp at hk
                have := HB6.out.2.2.2.2.2
                omega
              case hb3 => repeat (first | exact Below.refl _ _ | apply Below.drew | refine Below.alloc ?_ (by simp) _)
              case hbase3 => simp; try omega
              case hl3 => have := H256.out.1; simp; omega
              intro v9 w9 hN9 hB9 hg9 hat9
              try rw [List.nil_append] at hN9
              obtain ⟨A9, c9, e9, _, _⟩ := Kd.N_reads hN9
              subst e9
              rw [HD.out.2.1] at hN9
              rw [HD.out.2.1]
              rw [HD.out.2.1] at hat9
              have HN9 := Lib.hid (And.intro hN9 hB9)
              clear hN9 hB9 hg9 hat9
              refine hK.out _ _ (HS0.out _ HN9.out.2) (fun hHeld2 => ?_)
              clear hK K
              refine norm_ (a' := ?_) ?_ ?_
              rotate_left
              · show Act.put _ (some 45) _ = _
                simp only [Act.put, List.setIfInBounds_toArray, List.set_cons_zero, List.set_cons_succ, i64_w, i32_w]
                rfl
              refine one_ (i := 5) (N := some 47) #[true, true, true, true, true, true, false, false, false] rfl rfl (by kernel_rfl) (by decide) (fun K hK => ?_)
              refine value_ (by rfl) rfl (by go_simp; first | rfl | exact ⟨rfl, rfl⟩) ?_
              refine hK.out _ _ (HS0.out _ (by repeat (first | exact HN9.out.2 | apply Below.drew | refine Below.alloc ?_ (by have := HN9.out.2.size; simp; try omega) _))) (fun hHeld3 => ?_)
              clear hK K
              refine norm_ (a' := ?_) ?_ ?_
              rotate_left
              · show Act.put _ (some 47) _ = _
                simp only [Act.put, List.setIfInBounds_toArray, List.set_cons_zero, List.set_cons_succ, i64_w, i32_w]
                rfl
              refine tail_list 6 (t := [6, 7, 8]) (fuel := 0) rfl rfl rfl (by kernel_rfl) (by decide) ?_
              have hT : Below w6.heap.size w6 (w9.alloc (.cells #[.int .i64 x.f0, .string x.f1, .string x.f2, .string x.f3, .int .i64 x.f4, .slice A5 x.f5.length c5, .slice A6 x.f6.length c6] 39)) ∧ Kd.N kPrm 39 (w9.alloc (.cells #[.int .i64 x.f0, .string x.f1, .string x.f2, .string x.f3, .int .i64 x.f4, .slice A5 x.f5.length c5, .slice A6 x.f6.length c6] 39)) w6.heap.size (fun k => k ≠ qb) (.slice A9 nb c9) p.body ∧ (w9.alloc (.cells #[.int .i64 x.f0, .string x.f1, .string x.f2, .string x.f3, .int .i64 x.f4, .slice A5 x.f5.length c5, .slice A6 x.f6.length c6] 39)).heap[w9.heap.size]? = some (.cells #[.int .i64 x.f0, .string x.f1, .string x.f2, .string x.f3, .int .i64 x.f4, .slice A5 x.f5.length c5, .slice A6 x.f6.length c6] 39 (0, 0)) ∧ w6.heap.size ≤ w9.heap.size ∧ some (w9.heap.size) ≠ (Value.slice A9 nb c9).ownBlock := ⟨HN9.out.2.alloc HN9.out.2.size _, Kd.N_below HN9.out.1 ((Below.refl _ _).alloc (Nat.le_refl _) _), heap_alloc_new w9 _, HN9.out.2.size, fun e => by have := Kd.N_lt HN9.out.1 _ e.symm; omega⟩
              have HT := Lib.hid hT
              change wpList _ _ _ (_ :: _ :: [_]) _ _
              go_wp2_with (at_builtin; go_loud (refine Kd.N_append_rows (w0 := w6) kPrm w6.heap.size rfl _ _ 23 39 (.agg #[.int .i64 0, .string ⟨#[]⟩, .string ⟨#[]⟩, .string ⟨#[]⟩, .int .i64 0, .slice none 0 0, .slice none 0 0]) 112 rfl Tryd.underlying23 infoPN rfl (by decide) (by decide) (.slice A9 nb c9) p.body [x] (some ⟨w9.heap.size, 0, none⟩) 1 1 (fun k => k ≠ qb) (fun k => k < w.heap.size ∨ k = w9.heap.size) rfl rfl ?ho4 ?hr4 ?hokp4 ?hfresh4 ?hb4 ?hbase4 ?hl4 ?hk4))
              try case ho4 => exact HT.out.2.1
              try case hr4 => exact F_one HX.out.1 (HB6.out.1.trans (HT.out.1.mono HB6.out.1.size)) HT.out.2.2.1
              case hokp4 =>
                intro k hk
                have h1 := HB6.out.2.2.2.2.1
                have h2 := HB6.out.2.2.2.2.2
                have h3 := HT.out.2.2.2.1
                rcases hk with hk | hk
                · exact ⟨by omega, fun e => by have := Kd.N_base HT.out.2.1 k e.symm; omega⟩
                · exact ⟨by omega, fun e => HT.out.2.2.2.2 (by rw [← hk]; exact e)⟩
              case hfresh4 =>
                intro k hk e
                have h2 := HB6.out.2.2.2.2.2
                have h3 := HT.out.1.size
                omega
              try case hb4 => exact HT.out.1
              case hbase4 => have h9 := HT.out.1.size; simpa using h9
              case hl4 => have := H256.out.1; have := HD.out.2.1; omega
              intro v10 w10 hN10 hB10 hg10 hat10
              obtain ⟨A10, c10, e10, _, _⟩ := Kd.N_reads hN10
              subst e10
              have hl10 : (p.body ++ [x]).length = nb + 1 := by rw [List.length_append, HD.out.2.1]; rfl
              rw [hl10] at hN10
              rw [hl10]
              have hq10 := blk_below HB6.out.2.2.2.1 hB10
              obtain ⟨j0, j1, j2⟩ := cells3p hq10
              have jl := blk_lt hq10
              have fz2 := Lib.frozen_of_heap hq10 2
              have hw10 := HB6.out.1.trans (hB10.mono HB6.out.1.size)
              have hpp := blk_below HB6.out.2.1 hB10
              have hxx := blk_below HB6.out.2.2.1 hB10
              have HF := Lib.hid (And.intro hN10 (And.intro hq10 (And.intro hw10 (And.intro hpp hxx))))
              have HREST := Lib.hid REST
              clear hN10 hB10 hg10 hat10 hq10 hw10 hpp hxx REST hl10
              go_wp2_with fail
              exact HREST.out _ _ _ _ _ _ _ _ A10 c10 _ (HF.out.2.2.1.setCell (p := ⟨qb, 2, none⟩) (by have := HB6.out.2.2.2.2.1; show w.heap.size ≤ qb; omega) _) ((Below.heap_setCell w10 ⟨qb, 2, none⟩ _ _ (by have := HB6.out.2.2.2.2.1; show w.heap.size ≠ qb; omega)).trans HF.out.2.2.2.1) ((Below.heap_setCell w10 ⟨qb, 2, none⟩ _ _ (by have := HB6.out.2.2.2.2.1; show w.heap.size + 1 ≠ qb; omega)).trans HF.out.2.2.2.2) (blk_set HF.out.2.1 2 _) (Kd.N_far HF.out.1 (p := ⟨qb, 2, none⟩) (fun k hk => hk) _)
            · skip
              refine value_ (by rfl) rfl (by go_simp; first | rfl | exact ⟨rfl, rfl⟩) ?_
              refine hK.out _ _ (HS0.out _ (by repeat (first | exact Below.refl _ _ | apply Below.drew | refine Below.alloc ?_ (by simp) _))) (fun hHeld2 => ?_)
              clear hK K
              refine norm_ (a' := ?_) ?_ ?_
              rotate_left
              · show Act.put _ (some 47) _ = _
                simp only [Act.put, List.setIfInBounds_toArray, List.set_cons_zero, List.set_cons_succ, i64_w, i32_w]
                rfl
              refine one_ (i := 3) (N := some 45) #[true, true, true, true, true, true, false, false, false] rfl rfl (by kernel_rfl) (by decide) (fun K hK => ?_)
              refine Kd.N_append_rows_step (w0 := w6) kPrm w6.heap.size (by rfl) _ _ 23 39 (.agg #[.int .i64 0, .string ⟨#[]⟩, .string ⟨#[]⟩, .string ⟨#[]⟩, .int .i64 0, .slice none 0 0, .slice none 0 0]) 112 (by rfl) Tryd.underlying23 infoPN rfl (by decide) (by decide) (.slice (some ⟨w6.heap.size, 0, none⟩) 0 0) [] p.body Ab nb cb (fun k => k ≠ qb) (fun k => k < w.heap.size) (by rfl) (by rfl) ?ho5 ?hr5 ?hokp5 ?hfresh5 ?hb5 ?hbase5 ?hl5 ?hk5
              case ho5 => exact N_emptyq (by exact (Lib.alloc_old (w6.alloc (.cells #[] 39)) (.cells #[.int .i64 x.f0, .string x.f1, .string x.f2, .string x.f3, .int .i64 x.f4, .slice A5 x.f5.length c5, .slice A6 x.f6.length c6] 39) _ (by simp)).trans (heap_alloc_new w6 _)) (by omega) (by have := HB6.out.2.2.2.2.2; omega)
              case hr5 => exact F_body HD.out.2.2.2.2.1 (HB6.out.1.trans (Below.mono (by repeat (first | exact Below.refl _ _ | apply Below.drew | refine Below.alloc ?_ (by simp) _)) HB6.out.1.size))
              case hokp5 => exact fun k hk => ⟨by have := HB6.out.2.2.2.2.1; omega, fun e => by simp [Value.ownBlock] at e; have := HB6.out.2.2.2.2.1; have := HB6.out.2.2.2.2.2; omega⟩
              case hfresh5 =>
                intro k hk e
                simp at hk
                have := HB6.out.2.2.2.2.2
                omega
              case hb5 => repeat (first | exact Below.refl _ _ | apply Below.drew | refine Below.alloc ?_ (by simp) _)
              case hbase5 => simp; try omega
              case hl5 => have := H256.out.1; simp; omega
              intro v9 w9 hN9 hB9 hg9 hat9
              try rw [List.nil_append] at hN9
              obtain ⟨A9, c9, e9, _, _⟩ := Kd.N_reads hN9
              subst e9
              rw [HD.out.2.1] at hN9
              rw [HD.out.2.1]
              rw [HD.out.2.1] at hat9
              have hT : Below w6.heap.size w6 w9 ∧ Kd.N kPrm 39 w9 w6.heap.size (fun k => k ≠ qb) (.slice A9 nb c9) p.body ∧ w9.heap[w6.heap.size + 1]? = some (.cells #[.int .i64 x.f0, .string x.f1, .string x.f2, .string x.f3, .int .i64 x.f4, .slice A5 x.f5.length c5, .slice A6 x.f6.length c6] 39 (0, 0)) ∧ w6.heap.size ≤ w6.heap.size + 1 ∧ some (w6.heap.size + 1) ≠ (Value.slice A9 nb c9).ownBlock := ⟨hB9, hN9, (gb_blk hg9 (by rw [show w6.heap.size + 1 = (w6.alloc (.cells #[] 39)).heap.size by simp]; exact heap_alloc_new (w6.alloc (.cells #[] 39)) _) (by simp [Value.ownBlock])), by omega, fun e => by
                rcases hat9 with h | ⟨b, h, hb⟩
                · rw [h] at e; simp [Value.ownBlock] at e
                · rw [h] at e; simp at hb e; omega⟩
              have HT := Lib.hid hT
              clear hT hN9 hB9 hg9 hat9
              refine hK.out _ _ (HS0.out _ HT.out.1) (fun hHeld3 => ?_)
              clear hK K
              refine norm_ (a' := ?_) ?_ ?_
              rotate_left
              · show Act.put _ (some 45) _ = _
                simp only [Act.put, List.setIfInBounds_toArray, List.set_cons_zero, List.set_cons_succ, i64_w, i32_w]
                rfl
              refine tail_list 6 (t := [6, 7, 8]) (fuel := 0) rfl rfl rfl (by kernel_rfl) (by decide) ?_
              change wpList _ _ _ (_ :: _ :: [_]) _ _
              go_wp2_with (at_builtin; go_loud (refine Kd.N_append_rows (w0 := w6) kPrm w6.heap.size rfl _ _ 23 39 (.agg #[.int .i64 0, .string ⟨#[]⟩, .string ⟨#[]⟩, .string ⟨#[]⟩, .int .i64 0, .slice none 0 0, .slice none 0 0]) 112 rfl Tryd.underlying23 infoPN rfl (by decide) (by decide) (.slice A9 nb c9) p.body [x] (some ⟨(w6.heap.size + 1), 0, none⟩) 1 1 (fun k => k ≠ qb) (fun k => k < w.heap.size ∨ k = (w6.heap.size + 1)) rfl rfl ?ho6 ?hr6 ?hokp6 ?hfresh6 ?hb6 ?hbase6 ?hl6 ?hk6))
              try case ho6 => exact HT.out.2.1
              try case hr6 => exact F_one HX.out.1 (HB6.out.1.trans (HT.out.1.mono HB6.out.1.size)) HT.out.2.2.1
              case hokp6 =>
                intro k hk
                have h1 := HB6.out.2.2.2.2.1
                have h2 := HB6.out.2.2.2.2.2
                have h3 := HT.out.2.2.2.1
                rcases hk with hk | hk
                · exact ⟨by omega, fun e => by have := Kd.N_base HT.out.2.1 k e.symm; omega⟩
                · exact ⟨by omega, fun e => HT.out.2.2.2.2 (by rw [← hk]; exact e)⟩
              case hfresh6 =>
                intro k hk e
                have h2 := HB6.out.2.2.2.2.2
                have h3 := HT.out.1.size
                omega
              try case hb6 => exact HT.out.1
              case hbase6 => have h9 := HT.out.1.size; simpa using h9
              case hl6 => have := H256.out.1; have := HD.out.2.1; omega
              intro v10 w10 hN10 hB10 hg10 hat10
              obtain ⟨A10, c10, e10, _, _⟩ := Kd.N_reads hN10
              subst e10
              have hl10 : (p.body ++ [x]).length = nb + 1 := by rw [List.length_append, HD.out.2.1]; rfl
              rw [hl10] at hN10
              rw [hl10]
              have hq10 := blk_below HB6.out.2.2.2.1 hB10
              obtain ⟨j0, j1, j2⟩ := cells3p hq10
              have jl := blk_lt hq10
              have fz2 := Lib.frozen_of_heap hq10 2
              have hw10 := HB6.out.1.trans (hB10.mono HB6.out.1.size)
              have hpp := blk_below HB6.out.2.1 hB10
              have hxx := blk_below HB6.out.2.2.1 hB10
              have HF := Lib.hid (And.intro hN10 (And.intro hq10 (And.intro hw10 (And.intro hpp hxx))))
              have HREST := Lib.hid REST
              clear hN10 hB10 hg10 hat10 hq10 hw10 hpp hxx REST hl10
              go_wp2_with fail
              exact HREST.out _ _ _ _ _ _ _ _ A10 c10 _ (HF.out.2.2.1.setCell (p := ⟨qb, 2, none⟩) (by have := HB6.out.2.2.2.2.1; show w.heap.size ≤ qb; omega) _) ((Below.heap_setCell w10 ⟨qb, 2, none⟩ _ _ (by have := HB6.out.2.2.2.2.1; show w.heap.size ≠ qb; omega)).trans HF.out.2.2.2.1) ((Below.heap_setCell w10 ⟨qb, 2, none⟩ _ _ (by have := HB6.out.2.2.2.2.1; show w.heap.size + 1 ≠ qb; omega)).trans HF.out.2.2.2.2) (blk_set HF.out.2.1 2 _) (Kd.N_far HF.out.1 (p := ⟨qb, 2, none⟩) (fun k hk => hk) _)
          · skip
            refine value_ (by rfl) rfl (by go_simp; first | rfl | exact ⟨rfl, rfl⟩) ?_
            refine hK.out _ _ (HS0.out _ (by repeat (first | exact Below.refl _ _ | apply Below.drew | refine Below.alloc ?_ (by simp) _))) (fun hHeld1 => ?_)
            clear hK K
            refine norm_ (a' := ?_) ?_ ?_
            rotate_left
            · show Act.put _ (some 47) _ = _
              simp only [Act.put, List.setIfInBounds_toArray, List.set_cons_zero, List.set_cons_succ, i64_w, i32_w]
              rfl
            refine one_ (i := 0) (N := some 42) #[true, true, true, false, true, true, false, false, false] rfl rfl (by kernel_rfl) (by decide) (fun K hK => ?_)
            refine value_ (by rfl) rfl (by go_simp; first | rfl | exact ⟨rfl, rfl⟩) ?_
            refine hK.out _ _ (HS0.out _ (by repeat (first | exact Below.refl _ _ | apply Below.drew | refine Below.alloc ?_ (by simp) _))) (fun hHeld2 => ?_)
            clear hK K
            refine norm_ (a' := ?_) ?_ ?_
            rotate_left
            · show Act.put _ (some 42) _ = _
              simp only [Act.put, List.setIfInBounds_toArray, List.set_cons_zero, List.set_cons_succ, i64_w, i32_w]
              rfl
            refine one_ (i := 3) (N := some 45) #[true, true, true, true, true, true, false, false, false] rfl rfl (by kernel_rfl) (by decide) (fun K hK => ?_)
            refine Kd.N_append_rows_step (w0 := w6) kPrm w6.heap.size (by rfl) _ _ 23 39 (.agg #[.int .i64 0, .string ⟨#[]⟩, .string ⟨#[]⟩, .string ⟨#[]⟩, .int .i64 0, .slice none 0 0, .slice none 0 0]) 112 (by rfl) Tryd.underlying23 infoPN rfl (by decide) (by decide) (.slice (some ⟨w6.heap.size + 1, 0, none⟩) 0 0) [] p.body Ab nb cb (fun k => k ≠ qb) (fun k => k < w.heap.size) (by rfl) (by rfl) ?ho7 ?hr7 ?hokp7 ?hfresh7 ?hb7 ?hbase7 ?hl7 ?hk7
            case ho7 => exact N_emptyq (by rw [show w6.heap.size + 1 = (w6.alloc (.cells #[.int .i64 x.f0, .string x.f1, .string x.f2, .string x.f3, .int .i64 x.f4, .slice A5 x.f5.length c5, .slice A6 x.f6.length c6] 39)).heap.size by simp]; exact heap_alloc_new (w6.alloc (.cells #[.int .i64 x.f0, .string x.f1, .string x.f2, .string x.f3, .int .i64 x.f4, .slice A5 x.f5.length c5, .slice A6 x.f6.length c6] 39)) _) (by omega) (by have := HB6.out.2.2.2.2.2; omega)
            case hr7 => exact F_body HD.out.2.2.2.2.1 (HB6.out.1.trans (Below.mono (by repeat (first | exact Below.refl _ _ | apply Below.drew | refine Below.alloc ?_ (by simp) _)) HB6.out.1.size))
            case hokp7 => exact fun k hk => ⟨by have := HB6.out.2.2.2.2.1; omega, fun e => by simp [Value.ownBlock] at e; have := HB6.out.2.2.2.2.1; have := HB6.out.2.2.2.2.2; omega⟩
            case hfresh7 =>
              intro k hk e
              simp at hk
              have := HB6.out.2.2.2.2.2
              omega
            case hb7 => repeat (first | exact Below.refl _ _ | apply Below.drew | refine Below.alloc ?_ (by simp) _)
            case hbase7 => simp; try omega
            case hl7 => have := H256.out.1; simp; omega
            intro v9 w9 hN9 hB9 hg9 hat9
            try rw [List.nil_append] at hN9
            obtain ⟨A9, c9, e9, _, _⟩ := Kd.N_reads hN9
            subst e9
            rw [HD.out.2.1] at hN9
            rw [HD.out.2.1]
            rw [HD.out.2.1] at hat9
            have hT : Below w6.heap.size w6 w9 ∧ Kd.N kPrm 39 w9 w6.heap.size (fun k => k ≠ qb) (.slice A9 nb c9) p.body ∧ w9.heap[w6.heap.size]? = some (.cells #[.int .i64 x.f0, .string x.f1, .string x.f2, .string x.f3, .int .i64 x.f4, .slice A5 x.f5.length c5, .slice A6 x.f6.length c6] 39 (0, 0)) ∧ w6.heap.size ≤ w6.heap.size ∧ some (w6.heap.size) ≠ (Value.slice A9 nb c9).ownBlock := ⟨hB9, hN9, (gb_blk hg9 ((Lib.alloc_old (w6.alloc (.cells #[.int .i64 x.f0, .string x.f1, .string x.f2, .string x.f3, .int .i64 x.f4, .slice A5 x.f5.length c5, .slice A6 x.f6.length c6] 39)) (.cells #[] 39) _ (by simp)).trans (heap_alloc_new w6 _)) (by simp [Value.ownBlock])), Nat.le_refl _, fun e => by
              rcases hat9 with h | ⟨b, h, hb⟩
              · rw [h] at e; simp [Value.ownBlock] at e
              · rw [h] at e; simp at hb e; omega⟩
            have HT := Lib.hid hT
            clear hT hN9 hB9 hg9 hat9
            refine hK.out _ _ (HS0.out _ HT.out.1) (fun hHeld3 => ?_)
            clear hK K
            refine norm_ (a' := ?_) ?_ ?_
            rotate_left
            · show Act.put _ (some 45) _ = _
              simp only [Act.put, List.setIfInBounds_toArray, List.set_cons_zero, List.set_cons_succ, i64_w, i32_w]
              rfl
            refine tail_list 6 (t := [6, 7, 8]) (fuel := 0) rfl rfl rfl (by kernel_rfl) (by decide) ?_
            change wpList _ _ _ (_ :: _ :: [_]) _ _
            go_wp2_with (at_builtin; go_loud (refine Kd.N_append_rows (w0 := w6) kPrm w6.heap.size rfl _ _ 23 39 (.agg #[.int .i64 0, .string ⟨#[]⟩, .string ⟨#[]⟩, .string ⟨#[]⟩, .int .i64 0, .slice none 0 0, .slice none 0 0]) 112 rfl Tryd.underlying23 infoPN rfl (by decide) (by decide) (.slice A9 nb c9) p.body [x] (some ⟨w6.heap.size, 0, none⟩) 1 1 (fun k => k ≠ qb) (fun k => k < w.heap.size ∨ k = w6.heap.size) rfl rfl ?ho8 ?hr8 ?hokp8 ?hfresh8 ?hb8 ?hbase8 ?hl8 ?hk8))
            try case ho8 => exact HT.out.2.1
            try case hr8 => exact F_one HX.out.1 (HB6.out.1.trans (HT.out.1.mono HB6.out.1.size)) HT.out.2.2.1
            case hokp8 =>
              intro k hk
              have h1 := HB6.out.2.2.2.2.1
              have h2 := HB6.out.2.2.2.2.2
              have h3 := HT.out.2.2.2.1
              rcases hk with hk | hk
              · exact ⟨by omega, fun e => by have := Kd.N_base HT.out.2.1 k e.symm; omega⟩
              · exact ⟨by omega, fun e => HT.out.2.2.2.2 (by rw [← hk]; exact e)⟩
            case hfresh8 =>
              intro k hk e
              have h2 := HB6.out.2.2.2.2.2
              have h3 := HT.out.1.size
              omega
            try case hb8 => exact HT.out.1
            case hbase8 => have h9 := HT.out.1.size; simpa using h9
            case hl8 => have := H256.out.1; have := HD.out.2.1; omega
            intro v10 w10 hN10 hB10 hg10 hat10
            obtain ⟨A10, c10, e10, _, _⟩ := Kd.N_reads hN10
            subst e10
            have hl10 : (p.body ++ [x]).length = nb + 1 := by rw [List.length_append, HD.out.2.1]; rfl
            rw [hl10] at hN10
            rw [hl10]
            have hq10 := blk_below HB6.out.2.2.2.1 hB10
            obtain ⟨j0, j1, j2⟩ := cells3p hq10
            have jl := blk_lt hq10
            have fz2 := Lib.frozen_of_heap hq10 2
            have hw10 := HB6.out.1.trans (hB10.mono HB6.out.1.size)
            have hpp := blk_below HB6.out.2.1 hB10
            have hxx := blk_below HB6.out.2.2.1 hB10
            have HF := Lib.hid (And.intro hN10 (And.intro hq10 (And.intro hw10 (And.intro hpp hxx))))
            have HREST := Lib.hid REST
            clear hN10 hB10 hg10 hat10 hq10 hw10 hpp hxx REST hl10
            go_wp2_with fail
            exact HREST.out _ _ _ _ _ _ _ _ A10 c10 _ (HF.out.2.2.1.setCell (p := ⟨qb, 2, none⟩) (by have := HB6.out.2.2.2.2.1; show w.heap.size ≤ qb; omega) _) ((Below.heap_setCell w10 ⟨qb, 2, none⟩ _ _ (by have := HB6.out.2.2.2.2.1; show w.heap.size ≠ qb; omega)).trans HF.out.2.2.2.1) ((Below.heap_setCell w10 ⟨qb, 2, none⟩ _ _ (by have := HB6.out.2.2.2.2.1; show w.heap.size + 1 ≠ qb; omega)).trans HF.out.2.2.2.2) (blk_set HF.out.2.1 2 _) (Kd.N_far HF.out.1 (p := ⟨qb, 2, none⟩) (fun k hk => hk) _)
end Go.Proofs.YtijfedahhgcfpaaDoor
