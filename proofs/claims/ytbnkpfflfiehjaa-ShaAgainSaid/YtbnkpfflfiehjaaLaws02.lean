/- Chapter 02's statements: their contracts. -/
import Derived.Test.YtbnkpfflfiehjaaShaH
import Derived.Test.YtbnkpfflfiehjaaOpen
import Derived.ChangeKeysEq
set_option linter.unusedVariables false
set_option linter.unusedSimpArgs false
namespace Go.Proofs.Ytbnkpfflfiehjaa
open Go.RowKit Go.Proofs.YtbnkpfflfiehjaaW.PrintWords Go.Proofs.YtbnkpfflfiehjaaW.PrintLast
open Go.Proofs.Ytbnkpfflfiehjaa.PShaTells

def goodB (xs : List Int) : Prop := xs.length * 1 ≤ 140737488351232 ∧ ∀ x ∈ xs, (Lit.int .u8 x).wf = true
theorem opens_bytes : Opens Try.prog 22 (Kd.slice 5 (Kd.int .u8)) goodB :=
  Opens.slice Try.underlying22 (by kernel_rfl) (B := 1) (by kernel_rfl) (Opens.int Try.underlying5)
theorem bytes_of (xs : List Int) (h : ∀ x ∈ xs, (Lit.int .u8 x).wf = true) : ∃ bs : List (BitVec 8), xs = bs.map byt := by
  refine ⟨xs.map fun x => BitVec.ofNat 8 x.toNat, ?_⟩
  rw [List.map_map]
  symm
  rw [List.map_congr_left (g := id)]
  · simp
  · intro x hx
    have := h x hx
    have hw : 0 ≤ x ∧ x < 256 := by
      simp [Lit.wf, IntKind.min, IntKind.max, IntKind.bits, IntKind.signed] at this
      omega
    show byt (BitVec.ofNat 8 x.toNat) = x
    unfold byt
    rw [BitVec.toNat_ofNat]
    omega

/-! ## the reference's Named -/
theorem bt_at (s : ByteArray) (i : Nat) (h : i < s.size) : bt s (i : Int) = ((s[i]'h).toNat : Int) := by
  unfold bt
  simp [h]
theorem named_l0 (s : ByteArray) (hs : s.size < 1000000000000) : ∀ (d i k : Nat), i + d = s.size → d < k → counterpaneref02_Named.l0 k s (i : Int) = some ((s.data.toList.drop i).all (fun b => hexN b.toNat) && decide (s.size = 64)) := by
  intro d
  induction d with
  | zero =>
    intro i k hd hk
    obtain ⟨k, rfl⟩ : ∃ m, k = m + 1 := ⟨k - 1, by omega⟩
    rw [counterpaneref02_Named.l0, if_neg (by omega), List.drop_eq_nil_of_le (by simp; omega)]
    congr 1
    by_cases h : s.size = 64
    · simp [h]
    · have h2 : ¬ ((s.size : Int) = 64) := by omega
      simp [h, h2]
  | succ d ih =>
    intro i k hd hk
    obtain ⟨k, rfl⟩ : ∃ m, k = m + 1 := ⟨k - 1, by omega⟩
    have hp : i < s.size := by omega
    have hdr : s.data.toList.drop i = (s[i]'hp) :: s.data.toList.drop (i + 1) := by
      rw [List.drop_eq_getElem_cons (by simpa using hp)]
      rfl
    have hih := ih (i + 1) k (by omega) (by omega)
    have hw : wrap64 ((i : Int) + 1) = ((i + 1 : Nat) : Int) := by unfold wrap64; omega
    rw [counterpaneref02_Named.l0, if_pos (by omega), if_pos (by omega), bt_at s i hp, hw, hih, hdr, List.all_cons]
    clear hw hih hdr ih
    obtain ⟨b, hb⟩ : ∃ b, b = (s[i]'hp).toNat := ⟨_, rfl⟩
    rw [← hb]
    clear hb
    by_cases h48 : (b : Int) < 48
    · rw [if_pos h48, if_pos (by omega), show hexN b = false from decide_eq_false (by omega)]
      rfl
    · rw [if_neg h48]
      by_cases h57 : (b : Int) > 57
      · rw [if_pos h57]
        by_cases h97 : (b : Int) < 97
        · rw [if_pos h97, show hexN b = false from decide_eq_false (by omega)]
          rfl
        · rw [if_neg h97]
          by_cases h102 : (b : Int) > 102
          · rw [if_pos h102, show hexN b = false from decide_eq_false (by omega)]
            rfl
          · rw [if_neg h102, show hexN b = true from decide_eq_true (by omega), Bool.true_and]
      · rw [if_neg h57, show hexN b = true from decide_eq_true (by omega), Bool.true_and]
theorem named_ref (s : ByteArray) (hs : s.size < 1000000000000) (w : World) :
    Calls Try.prog 14 #[.string s] w fun e w' => e = .returned (.bool (named s)) ∧ Below w.heap.size w w' := by
  refine (counterpaneref02_Named.calls (s.size + 1) s (named s) w ?_).mono ?_
  · have := named_l0 s hs s.size 0 (s.size + 1) (by omega) (by omega)
    rw [List.drop_zero, Bool.and_comm] at this
    exact this
  · rintro e w' ⟨rfl, hD⟩
    exact ⟨rfl, hD.below⟩

/-! ## two sums compared -/
theorem part_at (S : List (BitVec 8)) (i : Nat) (hi : i < S.length) (w : World) : (part 5 (bcells S) i).run Try.prog w = .ok (.int .u8 (byt (S.getD i 0))) w := by
  have hget : (bcells S)[i]? = some (.int .u8 (byt (S.getD i 0))) := by
    simp [bcells, List.getElem?_eq_getElem hi, List.getD_eq_getElem?_getD]
  have hag : (isAgg 5).run Try.prog w = .ok false w := by rfl
  simp [part, hag, hget]
theorem byt_inj {a b : BitVec 8} : (byt a == byt b) = decide (a = b) := by
  by_cases h : a = b
  · simp [h]
  · have : ¬ byt a = byt b := by
      intro e
      apply h
      apply BitVec.eq_of_toNat_eq
      unfold byt at e
      omega
    simp [h, this]
theorem items_eq (S T : List (BitVec 8)) (w : World) : ∀ (is : List Nat), (∀ i ∈ is, i < S.length ∧ i < T.length) → (Op.eqItems 9999 5 1 (bcells S) (bcells T) is).run Try.prog w = .ok (decide (∀ i ∈ is, S.getD i 0 = T.getD i 0)) w
  | [], _ => by simp [Op.eqItems]
  | i :: is, h => by
    have h0 := h i List.mem_cons_self
    have hu : Try.prog.underlying 5 = some (.int .u8) := by rfl
    have ih := items_eq S T w is (fun j hj => h j (List.mem_cons_of_mem _ hj))
    have h1 := part_at S i h0.1 w
    have h2 := part_at T i h0.2 w
    have h3 := run_equalIn_int (P := Try.prog) w 9998 5 .u8 .u8 (byt (S.getD i 0)) (byt (T.getD i 0)) hu
    rw [byt_inj] at h3
    simp only [Op.eqItems, Nat.mul_one, Sem.run_bind, h1, h2, h3, Result.andThen_ok]
    by_cases e : S.getD i 0 = T.getD i 0
    · rw [decide_eq_true e]
      simp only [Bool.not_true, Bool.false_eq_true, if_false]
      rw [ih]
      congr 1
      simp only [List.forall_mem_cons, e, true_and]
    · rw [decide_eq_false e]
      simp only [Bool.not_false, if_true]
      rw [decide_eq_false (p := ∀ j ∈ i :: is, S.getD j 0 = T.getD j 0) (fun hh => e (hh i List.mem_cons_self))]
      rfl
theorem eq_sums (S T : List (BitVec 8)) (hS : S.length = 32) (hT : T.length = 32) (w : World) : (Op.equalIn 10000 24 (.agg (bcells S)) (.agg (bcells T))).run Try.prog w = .ok (decide (S = T)) w := by
  obtain ⟨i, hi, _⟩ := Option.map_eq_some_iff.1 (show (Try.prog.info? 5).map (·.size) = some 1 from by rfl)
  have h := run_equalIn_array (P := Try.prog) (t := 24) (e := 5) (n := 32) (i := i) w 9999 (bcells S) (bcells T) (by rfl) hi
  rw [h, show Try.prog.cellsOf 5 = 1 from by rfl, items_eq S T w _ (by intro j hj; have := List.mem_range.1 hj; omega)]
  congr 1
  rw [decide_eq_decide]
  constructor
  · intro hh
    apply List.ext_getElem (by omega)
    intro j h1 h2
    have := hh j (List.mem_range.2 (by omega))
    simpa [List.getD_eq_getElem?_getD, List.getElem?_eq_getElem h1, List.getElem?_eq_getElem h2] using this
  · rintro rfl j _
    rfl

set_option maxRecDepth 100000 in
set_option maxHeartbeats 4000000 in
theorem tells_law (w : World) (x : List Int) (A : Option Addr) (n c : Nat) (h : (Kd.slice 5 (Kd.int .u8)).K w x [.slice A n c]) (g : goodB x) (s : ByteArray) (gs : s.size ≤ 140737488351232) :
    Calls Try.prog 3 #[.slice A n c, .string s] w fun e w' => e = .returned (.bool true) ∧ Below w.heap.size w w' := by
  obtain ⟨A', c', e, l, hr⟩ := h
  obtain ⟨rfl, rfl, rfl⟩ : A = A' ∧ n = x.length ∧ c = c' := by injection e with e _; injection e with a b c; exact ⟨a, b, c⟩
  obtain ⟨bs, rfl⟩ := bytes_of x g.2
  rw [List.length_map] at l hr ⊢
  have hg := g.1
  rw [List.length_map] at hg
  have HC := Lib.hid hr
  clear e hr g
  by_cases hbig : 20000 < bs.length
  · have d1 : (bs.length : Int) > 20000 := by omega
    go_enter Try.func3, Try.ntmps3
    go_wp2_with fail
    refine (head_any w).mono ?_
    rintro e w1 ⟨rfl, hB⟩
    have HB := Lib.hid hB
    clear hB
    go_wp2_with fail
    go_ret
    exact ⟨rfl, HB.out⟩
  · have d1 : ¬ ((bs.length : Int) > 20000) := by omega
    by_cases hbig2 : 20000 < s.size
    · have d2 : (s.size : Int) > 20000 := by omega
      go_enter Try.func3, Try.ntmps3
      go_wp2_with fail
      refine (head_any w).mono ?_
      rintro e w1 ⟨rfl, hB⟩
      have HB := Lib.hid hB
      clear hB
      go_wp2_with fail
      go_ret
      exact ⟨rfl, HB.out⟩
    · have d2 : ¬ ((s.size : Int) > 20000) := by omega
      go_enter Try.func3, Try.ntmps3
      go_wp2_with fail
      refine (head_any w).mono ?_
      rintro e w1 ⟨rfl, hB⟩
      have HB := Lib.hid hB
      clear hB
      go_wp2_with fail
      refine (sum_any c A bs w1 (Kd.C_below HC.out HB.out) l (by omega)).mono ?_
      rintro e w2 ⟨rfl, hB⟩
      have HB2 := Lib.hid (below_then HB.out HB.out.size hB)
      clear hB
      go_wp2_with fail
      refine (sum_ref c A bs w2 (Kd.C_below HC.out HB2.out) l (by omega)).mono ?_
      rintro e w3 ⟨rfl, hB⟩
      have HB3 := Lib.hid (below_then HB2.out HB2.out.size hB)
      clear hB
      go_wp2_with fail
      rw [eq_sums (sum bs) (sum bs) (out_length _) (out_length _), decide_eq_true rfl]
      simp only [Result.andThen]
      rw [Oper.upon_value]
      go_wp2_with fail
      refine (name_any c A bs w3 (Kd.C_below HC.out HB3.out) l (by omega)).mono ?_
      rintro e w4 ⟨rfl, hB⟩
      have HB4 := Lib.hid (below_then HB3.out HB3.out.size hB)
      clear hB
      go_wp2_with fail
      refine (name_ref c A bs w4 (Kd.C_below HC.out HB4.out) l (by omega)).mono ?_
      rintro e w5 ⟨rfl, hB⟩
      have HB5 := Lib.hid (below_then HB4.out HB4.out.size hB)
      clear hB
      go_wp2_with fail
      refine (named_any s w5).mono ?_
      rintro e w6 ⟨rfl, hB⟩
      have HB6 := Lib.hid (below_then HB5.out HB5.out.size hB)
      clear hB
      go_wp2_with fail
      refine (named_ref s (by omega) w6).mono ?_
      rintro e w7 ⟨rfl, hB⟩
      have HB7 := Lib.hid (below_then HB6.out HB6.out.size hB)
      clear hB
      go_wp2_with fail
      go_ret
      exact ⟨by simp, HB7.out⟩
end Go.Proofs.Ytbnkpfflfiehjaa
