/- Costs of any hunks, a row of one hunk; the reference's Same of equal rows. -/
import Derived.Test.YtjclpepdjnffaaaLaws06
set_option linter.unusedVariables false
set_option linter.unusedSimpArgs false
namespace Go.Proofs.Ytjclpepdjnffaaa
open Go.RowKit Go.Proofs.YtjclpepdjnffaaaW.PrintWords Go.Proofs.YtjclpepdjnffaaaW.PrintLast Go.Proofs.Ytjclpepdjnffaaa.PDiffTells

def costsS (l : List S24) : Nat := (l.map fun h => h.f1.length + h.f2.length).sum
theorem costsS_drop (l : List S24) (i : Nat) (h : i < l.length) : costsS (l.drop i) = l[i].f1.length + l[i].f2.length + costsS (l.drop (i + 1)) := by
  rw [List.drop_eq_getElem_cons h]
  rfl
theorem costS_l (l : List S24) (hl : l.length < 4611686018427387904) : ∀ (d i n k : Nat), i + d = l.length → d < k → n + costsS (l.drop i) < 4611686018427387904 →
    diff_Cost.l0 k (n : Int) l (l.length : Int) (i : Int) = some ((n + costsS (l.drop i) : Nat) : Int) := by
  intro d
  induction d with
  | zero =>
    intro i n k hd hk hb
    obtain ⟨k, rfl⟩ : ∃ m, k = m + 1 := ⟨k - 1, by omega⟩
    rw [diff_Cost.l0, if_neg (by omega), List.drop_eq_nil_of_le (by omega)]
    simp [costsS]
  | succ d ih =>
    intro i n k hd hk hb
    obtain ⟨k, rfl⟩ : ∃ m, k = m + 1 := ⟨k - 1, by omega⟩
    have h1 : i < l.length := by omega
    have hc := costsS_drop l i h1
    rw [diff_Cost.l0, if_pos (by omega), if_pos (by omega), if_pos (by omega), rdT_nat _ _ h1, wrap_succ _ (by omega), wrap_add _ _ (by omega), wrap_add _ _ (by omega), ih (i + 1) _ k (by omega) (by omega) (by omega)]
    congr 2
    omega
theorem costS_f (l : List S24) (hl : l.length < 4611686018427387904) (hc : costsS l < 4611686018427387904) : diff_Cost.f (l.length + 1) l = some (costsS l : Int) := by
  unfold diff_Cost.f
  have := costS_l l hl l.length 0 0 (l.length + 1) (by omega) (by omega) (by simpa using hc)
  simpa using this
theorem rcostS_l (l : List S24) (hl : l.length < 4611686018427387904) : ∀ (d i n k : Nat), i + d = l.length → d < k → n + costsS (l.drop i) < 4611686018427387904 →
    counterpaneref06_Cost.l0 k l (n : Int) (i : Int) = some ((n + costsS (l.drop i) : Nat) : Int) := by
  intro d
  induction d with
  | zero =>
    intro i n k hd hk hb
    obtain ⟨k, rfl⟩ : ∃ m, k = m + 1 := ⟨k - 1, by omega⟩
    rw [counterpaneref06_Cost.l0, if_neg (by omega), List.drop_eq_nil_of_le (by omega)]
    simp [costsS]
  | succ d ih =>
    intro i n k hd hk hb
    obtain ⟨k, rfl⟩ : ∃ m, k = m + 1 := ⟨k - 1, by omega⟩
    have h1 : i < l.length := by omega
    have hc := costsS_drop l i h1
    rw [counterpaneref06_Cost.l0, if_pos (by omega), if_pos (by omega), rdT_nat _ _ h1, wrap_succ _ (by omega), wrap_add _ _ (by omega), wrap_add _ _ (by omega), ih (i + 1) _ k (by omega) (by omega) (by omega)]
    congr 2
    omega
theorem rcostS_f (l : List S24) (hl : l.length < 4611686018427387904) (hc : costsS l < 4611686018427387904) : counterpaneref06_Cost.f (l.length + 1) l = some (costsS l : Int) := by
  unfold counterpaneref06_Cost.f
  have := rcostS_l l hl l.length 0 0 (l.length + 1) (by omega) (by omega) (by simpa using hc)
  simpa using this
theorem costS_n (n c : Nat) (A : Option Addr) (l : List S24) (w : World) (hn : l.length = n) (hA : Kd.C k24 w A n l) (hc : n ≤ c) (h1 : n < 1000000) (h2 : costsS l < 1000000000000000000) :
    Calls Try.prog 18 #[.slice A n c] w fun e w' => e = .returned (.int .i64 (costsS l : Int)) ∧ Below w.heap.size w w' := by
  subst hn
  exact diff_Cost.calls (l.length + 1) A c l (costsS l : Int) w hA hc (costS_f l (by omega) (by omega))
theorem rcostS_n (n c : Nat) (A : Option Addr) (l : List S24) (w : World) (hn : l.length = n) (hA : Kd.C k24 w A n l) (hc : n ≤ c) (h1 : n < 1000000) (h2 : costsS l < 1000000000000000000) :
    Calls Try.prog 19 #[.slice A n c] w fun e w' => e = .returned (.int .i64 (costsS l : Int)) ∧ Below w.heap.size w w' := by
  subst hn
  refine (counterpaneref06_Cost.calls (l.length + 1) A c l (costsS l : Int) w hA hc (rcostS_f l (by omega) (by omega))).mono ?_
  rintro e w' ⟨rfl, hD⟩
  exact ⟨rfl, hD.below⟩
/-- One hunk in a block of its own. -/
theorem one_hk {W : World} {b : Nat} {t : TypeId} {p : Int} {no nn co cn : Nat} {Ao An : Option Addr} {old new : List ByteArray} (h : W.heap[b]? = some (.cells #[.int .i64 p, .slice Ao no co, .slice An nn cn] t (0, 0)))
    (hno : old.length = no) (hnn : new.length = nn) (hO : Kd.string.C W Ao no old) (hco : no ≤ co) (hN : Kd.string.C W An nn new) (hcn : nn ≤ cn) : Kd.C k24 W (some ⟨b, 0, none⟩) 1 [⟨p, old, new⟩] := by
  subst hno
  subst hnn
  refine ⟨rfl, by decide, fun _ => ⟨_, rfl, fun j x hj => ?_⟩⟩
  match j, hj with
  | 0, hj =>
    obtain rfl := Option.some.inj hj
    refine ⟨_, rfl, k24_mk W ⟨p, old, new⟩ hco hO hcn hN, fun k u hk => ?_⟩
    rw [addr_add, blk_cell h]
    match k, hk with
    | 0, hk => obtain rfl := Option.some.inj hk; rfl
    | 1, hk => obtain rfl := Option.some.inj hk; rfl
    | 2, hk => obtain rfl := Option.some.inj hk; rfl
theorem le_sum_of_mem : ∀ {l : List Nat} {x : Nat}, x ∈ l → x ≤ l.sum
  | a :: l, x, h => by
    rw [List.sum_cons]
    rcases List.mem_cons.1 h with rfl | h
    · omega
    · have := le_sum_of_mem h
      omega
theorem same_n (n c d M : Nat) (A B : Option Addr) (l : List (Hk ByteArray)) (w : World) (hn : l.length = n) (hA : Kd.C k24 w A n (l.map toS)) (hc : n ≤ c) (hB : Kd.C k24 w B n (l.map toS)) (hd : n ≤ d) (h1 : n < 1000000) (h2 : costs l < M) (h3 : M < 1000000000) :
    Calls Try.prog 16 #[.slice A n c, .slice B n d] w fun e w' => e = .returned (.bool true) ∧ Below w.heap.size w w' := by
  subst hn
  have hl : (l.map toS).length = l.length := List.length_map ..
  have hM : ∀ h ∈ l.map toS, h.f1.length < M ∧ h.f2.length < M := by
    intro h hh
    obtain ⟨x, hx, rfl⟩ := List.mem_map.1 hh
    have : x.cost ≤ costs l := by
      unfold costs
      exact le_sum_of_mem (List.mem_map_of_mem hx)
    unfold Hk.cost at this
    show x.old.length < M ∧ x.new.length < M
    omega
  have := counterpaneref06_Same.calls _ A c (l.map toS) B d (l.map toS) true w (by rw [hl]; exact hA) (by rw [hl]; exact hc) (by rw [hl]; exact hB) (by rw [hl]; exact hd) (Same_self (l.map toS) (by omega) M hM (by omega))
  rw [hl] at this
  exact this
theorem applied_len (x old new : List ByteArray) (p : Int) (h : x.length + new.length ≤ 1200) : ((appliedI x p old new).getD []).length ≤ 1200 := by
  cases hap : appliedI x p old new with
  | none => simp
  | some y =>
    unfold appliedI at hap
    split at hap
    · obtain ⟨q, r, e1, e2, _⟩ := applied_inv hap
      subst e1
      subst e2
      simp only [List.length_append, Option.getD_some] at h ⊢
      omega
    · cases hap
def keepT (W w' : World) (b : Nat) (x y z : Value) : Prop := keepA W w' b x y z ∧ b < w'.heap.size
theorem keepT_below {wr w' w'' : World} {b : Nat} {x y z : Value} (h : keepT wr w' b x y z) (hB : Below w'.heap.size w' w'') : keepT wr w'' b x y z :=
  ⟨keepA_below h.1 hB, Nat.lt_of_lt_of_le h.2 hB.size⟩
theorem keepT_b {wr w' : World} {b : Nat} {x y z : Value} (h : keepT wr w' b x y z) : Below wr.heap.size wr w' := h.1.1
theorem HSt.keep {w0 w : World} {hb : Nat} {p : Int} {Ao : Option Addr} {no co : Nat} {An : Option Addr} {nn cn : Nat} (h : HSt w0 w hb p Ao no co An nn cn) : keepT w w hb (.int .i64 p) (.slice Ao no co) (.slice An nn cn) :=
  ⟨⟨Below.refl _ _, h.cells.1, h.cells.2.1, h.cells.2.2.1⟩, h.cells.2.2.2⟩
end Go.Proofs.Ytjclpepdjnffaaa
