/- What the printed functions of chapter 05 answer: the reference's Split, Join, Right, Token, Tokens, Replace. -/
import Derived.Test.YtmhpnidhokcaeaaDoorLinesP
import Derived.Test.YtmhpnidhokcaeaaDoorPLinesTellsx3
set_option linter.unusedVariables false
set_option linter.unusedSimpArgs false
namespace Go.Proofs.YtmhpnidhokcaeaaDoor
open Go Go.RowKit Go.Proofs.YtmhpnidhokcaeaaDoorW.PrintWords Go.Proofs.YtmhpnidhokcaeaaDoorW.PrintLast Go.Proofs.YtmhpnidhokcaeaaDoor.PLinesTells

theorem bt_nat (s : ByteArray) (i : Nat) (h : i < s.size) : bt s (i : Int) = ((s[i]'h).toNat : Int) := by
  have := bt_at s (i : Int) (by rw [Int.toNat_natCast]; exact h)
  rw [← this]
  simp
theorem bl_at (s : ByteArray) (i : Nat) (h : i < s.size) : (bl s)[i]'(by rw [bl_size]; exact h) = s[i]'h := by
  obtain ⟨⟨l⟩⟩ := s
  rfl
theorem bl_drop (s : ByteArray) (i : Nat) (h : i < s.size) : (bl s).drop i = s[i]'h :: (bl s).drop (i + 1) := by
  rw [List.drop_eq_getElem_cons (by rw [bl_size]; exact h), bl_at s i h]
theorem byte_10 (b : UInt8) : ((b.toNat : Int) = 10) ↔ b = 10 := by
  constructor
  · intro h
    exact UInt8.toNat.inj (by show b.toNat = 10; omega)
  · rintro rfl
    rfl
theorem linesOf_none (l : List UInt8) (h : (10 : UInt8) ∉ l) : linesOf l = ([], l) := by
  induction l with
  | nil => rfl
  | cons b l ih =>
    have hb : b ≠ 10 := fun e => h (by simp [e])
    rw [linesOf, if_neg hb, ih (fun hx => h (List.mem_cons_of_mem _ hx))]
/-- A piece of a text. -/
theorem ext_bl (s : ByteArray) (i j : Nat) : bl (s.extract i j) = ((bl s).drop i).take (j - i) := by
  show (s.extract i j).data.toList = _
  rw [ByteArray.data_extract, Array.toList_extract, List.extract_eq_take_drop]
theorem ext_ba (s : ByteArray) (i j : Nat) : s.extract i j = ba (((bl s).drop i).take (j - i)) := by rw [← bl_inj, ext_bl, bl_ba]
theorem rsplit_l (s : ByteArray) (hs : s.size < 8000000000000) : ∀ (d i f k : Nat) (out : List ByteArray), i + d = s.size → f ≤ i → (10 : UInt8) ∉ ((bl s).drop f).take (i - f) → d < k → out.length ≤ i →
    counterpaneref05_Split.l0 k s out (f : Int) (i : Int) = some (out ++ (linesOf ((bl s).drop f)).1.map ba, true) := by
  intro d
  induction d with
  | zero =>
    intro i f k out hd hf hno hk ho
    obtain ⟨k, rfl⟩ : ∃ m, k = m + 1 := ⟨k - 1, by omega⟩
    rw [counterpaneref05_Split.l0, if_neg (by omega)]
    rw [List.take_of_length_le (by rw [List.length_drop, bl_size]; omega)] at hno
    rw [linesOf_none _ hno]
    simp
  | succ d ih =>
    intro i f k out hd hf hno hk ho
    obtain ⟨k, rfl⟩ : ∃ m, k = m + 1 := ⟨k - 1, by omega⟩
    have hi : i < s.size := by omega
    rw [counterpaneref05_Split.l0, if_pos (by omega), if_pos (by omega), bt_nat s i hi, wrap_succ _ (by omega)]
    have hsplit : (bl s).drop f = ((bl s).drop f).take (i - f) ++ (bl s).drop i := by
      conv => lhs; rw [← List.take_append_drop (i - f) ((bl s).drop f)]
      rw [List.drop_drop, show f + (i - f) = i by omega]
    by_cases hb : s[i]'hi = 10
    · rw [if_pos ((byte_10 _).2 hb), if_pos (by omega), if_pos (by omega), if_pos (by omega), if_pos (by omega), ih (i + 1) (i + 1) k _ (by omega) (Nat.le_refl _) (by simp) (by omega) (by simp; omega)]
      rw [Int.toNat_natCast, Int.toNat_natCast, ext_ba]
      have hL : linesOf ((bl s).drop f) = (((bl s).drop f).take (i - f) :: (linesOf ((bl s).drop (i + 1))).1, (linesOf ((bl s).drop (i + 1))).2) := by
        conv => lhs; rw [hsplit, bl_drop s i hi, hb]
        exact linesOf_line _ _ hno
      rw [hL]
      simp
    · rw [if_neg (fun h => hb ((byte_10 _).1 h)), ih (i + 1) f k out (by omega) (by omega) ?_ (by omega) (by omega)]
      rw [show i + 1 - f = (i - f) + 1 by omega, List.take_add_one]
      rw [show ((bl s).drop f)[i - f]? = some (s[i]'hi) from by
        rw [List.getElem?_drop, show f + (i - f) = i by omega, List.getElem?_eq_getElem (by rw [bl_size]; exact hi), bl_at s i hi]]
      intro hm
      rcases List.mem_append.1 hm with hm | hm
      · exact hno hm
      · simp at hm
        exact hb hm.symm
theorem split_last (s : ByteArray) (h : 0 < s.size) : (linesOf (bl s)).2 = [] ↔ s[s.size - 1]'(by omega) = 10 := by
  have hne : bl s ≠ [] := fun e => by
    have h2 := bl_size s
    rw [e, List.length_nil] at h2
    omega
  have hl : bl s = (bl s).dropLast ++ [s[s.size - 1]'(by omega)] := by
    conv => lhs; rw [← List.dropLast_concat_getLast hne]
    congr 2
    rw [List.getLast_eq_getElem]
    have := bl_at s (s.size - 1) (by omega)
    rw [← this]
    congr 1
  constructor
  · intro h1
    obtain ⟨r, hr⟩ := linesOf_open (bl s) hne h1
    rw [hl] at hr
    have := (List.append_inj' hr rfl).2
    simpa using this
  · intro h1
    rw [h1] at hl
    rw [hl]
    exact linesOf_end _
theorem rsplit_f (s : ByteArray) (hs : s.size < 8000000000000) : counterpaneref05_Split.f (s.size + 3) s = some (splitOf s) := by
  unfold counterpaneref05_Split.f splitOf
  have h0 := rsplit_l s hs s.size 0 0 (s.size + 2) [] (by omega) (Nat.le_refl _) (by simp) (by omega) (Nat.zero_le _)
  rw [List.drop_zero, List.nil_append] at h0
  by_cases hz : s.size = 0
  · have e : s.toList = [] := by
      rw [ByteArray.toList_eq]
      exact List.eq_nil_of_length_eq_zero hz
    have e2 : bl s = [] := List.eq_nil_of_length_eq_zero hz
    rw [if_pos e, counterpaneref05_Split.j0, if_neg (by simp), e2]
    rw [e2] at h0
    exact h0
  · have e : ¬ s.toList = [] := by
      rw [ByteArray.toList_eq]
      exact fun h => hz (congrArg List.length h)
    have hw : wrap64 ((s.size : Int) - 1) = ((s.size - 1 : Nat) : Int) := by unfold wrap64; omega
    rw [if_neg e, hw, if_pos (by omega), if_pos (by omega), counterpaneref05_Split.j0, bt_nat s (s.size - 1) (by omega)]
    have hl := split_last s (by omega)
    by_cases hb : s[s.size - 1]'(by omega) = 10
    · rw [if_pos (hl.2 hb), if_neg (by rw [hb]; decide)]
      exact h0
    · rw [if_neg (fun h => hb (hl.1 h)), if_pos ?_]
      rw [bne_iff_ne]
      exact fun h => hb ((byte_10 _).1 h)
/-! ## Join -/
def nm (l : List UInt8) : List Int := l.map fun b => (b.toNat : Int)
theorem nm_append (a b : List UInt8) : nm (a ++ b) = nm a ++ nm b := by simp [nm]
theorem nm_length (a : List UInt8) : (nm a).length = a.length := by simp [nm]
theorem bytesOf_nm (s : ByteArray) : bytesOf s = nm (bl s) := rfl
theorem str_nm (l : List UInt8) : strOfNums (nm l) = ba l := by
  rw [← bl_inj, bl_ba]
  show (strOfNums (nm l)).data.toList = l
  rw [strOfNums_data]
  unfold nm
  rw [List.map_map]
  conv => rhs; rw [← List.map_id l]
  apply List.map_congr_left
  intro b _
  simp
theorem join_next (x : List ByteArray) (i : Nat) (h : i < x.length) : joinOf (x.take (i + 1)) = joinOf (x.take i) ++ bl (x[i]'h) ++ [10] := by
  rw [← List.take_append_getElem h]
  unfold joinOf textOf
  rw [List.map_append, List.map_append, List.flatten_append, List.append_assoc]
  simp only [List.map_cons, List.map_nil, List.flatten_cons, List.flatten_nil, List.append_nil]
theorem join_part (x : List ByteArray) (i : Nat) (h : i < x.length) : (joinOf (x.take i)).length + (x[i]'h).size + 1 ≤ (joinOf x).length := by
  have hlen := joinOf_len (x.take i) (x.drop (i + 1)) (x[i]'h)
  rw [← List.drop_eq_getElem_cons h, List.take_append_drop] at hlen
  exact hlen
theorem rjoin_l (x : List ByteArray) (hx : x.length < 8000000000000) (hj : (joinOf x).length < 8000000000000) : ∀ (d i k : Nat), i + d = x.length → d < k →
    counterpaneref05_Join.l0 k x (nm (joinOf (x.take i))) (i : Int) = some (ba (joinOf x)) := by
  intro d
  induction d with
  | zero =>
    intro i k hd hk
    obtain ⟨k, rfl⟩ : ∃ m, k = m + 1 := ⟨k - 1, by omega⟩
    rw [counterpaneref05_Join.l0, if_neg (by omega), List.take_of_length_le (by omega), str_nm]
  | succ d ih =>
    intro i k hd hk
    obtain ⟨k, rfl⟩ : ∃ m, k = m + 1 := ⟨k - 1, by omega⟩
    have hi : i < x.length := by omega
    have hp := join_part x i hi
    rw [counterpaneref05_Join.l0, if_pos (by omega), if_pos (by omega), rdOf_nat _ _ _ hi, if_pos (by rw [nm_length]; omega), Option.bind_some, if_pos (by rw [List.length_append, nm_length, bytesOf_length]; omega), wrap_succ _ (by omega)]
    have e : nm (joinOf (x.take i)) ++ bytesOf (x[i]'hi) ++ [10] = nm (joinOf (x.take (i + 1))) := by
      rw [join_next x i hi, nm_append, nm_append, bytesOf_nm]
      rfl
    rw [e]
    exact ih (i + 1) k (by omega) (by omega)
/-! ## Right -/
theorem rright_l1 (x : List ByteArray) (hx : x.length < 8000000000000) (i : Nat) (hi : i < x.length) (hs : (x[i]'hi).size < 8000000000000) (R : Bool) (k0 : Nat) (hR : ∀ k, k0 ≤ k → counterpaneref05_Right.l0 k x ((i + 1 : Nat) : Int) = some R) :
    ∀ (d c : Nat), c + d = (x[i]'hi).size → ∀ k, k0 + d + 1 ≤ k → counterpaneref05_Right.l1 k x (i : Int) (c : Int) = some ((!((bl (x[i]'hi)).drop c).contains 10) && R) := by
  intro d
  induction d with
  | zero =>
    intro c hc k hk
    obtain ⟨k, rfl⟩ : ∃ m, k = m + 1 := ⟨k - 1, by omega⟩
    rw [counterpaneref05_Right.l1, if_pos (by omega), if_pos (by omega), rdOf_nat _ _ _ hi, if_neg (by omega), wrap_succ _ (by omega), hR k (by omega), List.drop_eq_nil_of_le (by rw [bl_size]; omega)]
    rfl
  | succ d ih =>
    intro c hc k hk
    obtain ⟨k, rfl⟩ : ∃ m, k = m + 1 := ⟨k - 1, by omega⟩
    have hcs : c < (x[i]'hi).size := by omega
    rw [counterpaneref05_Right.l1, if_pos (by omega), if_pos (by omega), rdOf_nat _ _ _ hi, if_pos (by omega), if_pos (by omega), bt_nat _ c hcs, wrap_succ _ (by omega), bl_drop _ c hcs]
    by_cases hb : (x[i]'hi)[c]'hcs = 10
    · rw [if_pos ((byte_10 _).2 hb), hb]
      simp
    · rw [if_neg (fun h => hb ((byte_10 _).1 h)), ih (c + 1) (by omega) k (by omega), List.contains_cons]
      have : (10 == (x[i]'hi)[c]'hcs) = false := by rw [beq_eq_false_iff_ne]; exact fun h => hb h.symm
      rw [this, Bool.false_or]
theorem rright_l (x : List ByteArray) (hx : x.length < 8000000000000) (hs : ∀ y ∈ x, y.size < 8000000000000) : ∀ (d i : Nat), i + d = x.length → ∃ k0, ∀ k, k0 ≤ k → counterpaneref05_Right.l0 k x (i : Int) = some (rightB (x.drop i)) := by
  intro d
  induction d with
  | zero =>
    intro i hd
    refine ⟨1, fun k hk => ?_⟩
    obtain ⟨k, rfl⟩ : ∃ m, k = m + 1 := ⟨k - 1, by omega⟩
    rw [counterpaneref05_Right.l0, if_neg (by omega), List.drop_eq_nil_of_le (by omega)]
    rfl
  | succ d ih =>
    intro i hd
    have hi : i < x.length := by omega
    obtain ⟨k0, h0⟩ := ih (i + 1) (by omega)
    refine ⟨k0 + (x[i]'hi).size + 2, fun k hk => ?_⟩
    obtain ⟨k, rfl⟩ : ∃ m, k = m + 1 := ⟨k - 1, by omega⟩
    have h1 := rright_l1 x hx i hi (hs _ (List.getElem_mem hi)) _ k0 h0 (x[i]'hi).size 0 (by omega) k (by omega)
    rw [counterpaneref05_Right.l0, if_pos (by omega)]
    refine h1.trans ?_
    rw [List.drop_zero, List.drop_eq_getElem_cons hi]
    rfl
/-! ## Tokens -/
theorem rin_f (b : UInt8) : counterpaneref05_in.f (b.toNat : Int) = some (inB b) := by
  unfold counterpaneref05_in.f inB inN
  have h := b.toNat_lt
  repeat' split
  all_goals
    congr 1
    rw [Bool.eq_iff_iff]
    simp
    try omega
theorem tokenB_at (s : ByteArray) : tokenB (bl s) = (decide (0 < s.size) && (bl s).all inB) := by
  unfold tokenB
  congr 1
  rw [← bl_size]
  cases bl s <;> simp
theorem rtoken_l (s : ByteArray) (hs : s.size < 8000000000000) : ∀ (d i k : Nat), i + d = s.size → d < k → counterpaneref05_Token.l0 k s (i : Int) = some (decide (0 < s.size) && ((bl s).drop i).all inB) := by
  intro d
  induction d with
  | zero =>
    intro i k hd hk
    obtain ⟨k, rfl⟩ : ∃ m, k = m + 1 := ⟨k - 1, by omega⟩
    rw [counterpaneref05_Token.l0, if_neg (by omega), List.drop_eq_nil_of_le (by rw [bl_size]; omega)]
    congr 1
    rw [Bool.eq_iff_iff]
    simp
  | succ d ih =>
    intro i k hd hk
    obtain ⟨k, rfl⟩ : ∃ m, k = m + 1 := ⟨k - 1, by omega⟩
    have hi : i < s.size := by omega
    rw [counterpaneref05_Token.l0, if_pos (by omega), if_pos (by omega), bt_nat s i hi, rin_f, Option.bind_some, wrap_succ _ (by omega), ih (i + 1) k (by omega) (by omega), bl_drop s i hi, List.all_cons]
    have hp : decide (0 < s.size) = true := decide_eq_true (by omega)
    rw [hp]
    cases inB (s[i]'hi) <;> simp
theorem rtoken_f (s : ByteArray) (hs : s.size < 8000000000000) (k : Nat) (hk : s.size < k) : counterpaneref05_Token.f k s = some (tokenB (bl s)) := by
  unfold counterpaneref05_Token.f
  rw [tokenB_at]
  exact rtoken_l s hs s.size 0 k (by omega) hk
def kinds (s : ByteArray) (f i : Nat) : Prop := ∀ j (hj : j < s.size) (hf : f < s.size), f ≤ j → j < i → inB (s[j]'hj) = inB (s[f]'hf)
theorem pieces_cut (s : ByteArray) (f i : Nat) (hf : f < i) (hi : i ≤ s.size) (h : kinds s f i) (he : ∀ hs : i < s.size, inB (s[i]'hs) ≠ inB (s[f]'(by omega))) : pieces ((bl s).drop f) = (((bl s).drop f).take (i - f), inB (s[f]'(by omega))) :: pieces ((bl s).drop i) := by
  have h1 := pieces_first ((bl s).drop f) (i - f) (inB (s[f]'(by omega))) (by omega) (by rw [List.length_drop, bl_size]; omega) (by
    intro b hb
    obtain ⟨j, hj, rfl⟩ := List.getElem_of_mem hb
    rw [List.length_take, List.length_drop, bl_size] at hj
    rw [List.getElem_take, List.getElem_drop, bl_at s (f + j) (by omega)]
    exact h (f + j) (by omega) (by omega) (by omega) (by omega)) (by
    intro b hb
    rw [List.getElem?_drop, show f + (i - f) = i by omega] at hb
    obtain ⟨hj, rfl⟩ := List.getElem?_eq_some_iff.1 hb
    rw [bl_size] at hj
    rw [bl_at s i hj]
    exact he hj)
  rw [List.drop_drop, show f + (i - f) = i by omega] at h1
  exact h1
theorem rtokens_l (s : ByteArray) (hs : s.size < 8000000000000) : ∀ (d i f k : Nat) (out : List ByteArray), i + d = s.size → f < i → kinds s f i → d + 2 ≤ k → out.length ≤ i →
    counterpaneref05_Tokens.l0 k s out (f : Int) (i : Int) = some (out ++ (pieces ((bl s).drop f)).map fun p => ba p.1) := by
  intro d
  induction d with
  | zero =>
    intro i f k out hd hf hkd hk ho
    obtain ⟨k, rfl⟩ : ∃ m, k = m + 1 + 1 := ⟨k - 2, by omega⟩
    rw [counterpaneref05_Tokens.l0, if_pos (by omega), if_pos (by omega), if_pos (by omega), if_pos (by omega), if_pos (by omega), wrap_succ _ (by omega), counterpaneref05_Tokens.l0, if_neg (by omega)]
    rw [Int.toNat_natCast, Int.toNat_natCast, ext_ba, pieces_cut s f i hf (by omega) hkd (fun h => by omega), List.drop_eq_nil_of_le (show (bl s).length ≤ i by rw [bl_size]; omega)]
    rfl
  | succ d ih =>
    intro i f k out hd hf hkd hk ho
    obtain ⟨k, rfl⟩ : ∃ m, k = m + 1 := ⟨k - 1, by omega⟩
    have hi : i < s.size := by omega
    have hfs : f < s.size := by omega
    rw [counterpaneref05_Tokens.l0, if_pos (by omega), if_neg (by omega), if_pos (by omega), if_pos (by omega), bt_nat s i hi, rin_f, Option.bind_some, if_pos (by omega), if_pos (by omega), bt_nat s f hfs, rin_f, Option.bind_some, wrap_succ _ (by omega)]
    by_cases hb : inB (s[i]'hi) = inB (s[f]'hfs)
    · rw [if_neg (by rw [hb]; simp), ih (i + 1) f k out (by omega) (by omega) ?_ (by omega) (by omega)]
      intro j hj hf2 h1 h2
      by_cases e : j = i
      · subst e
        exact hb
      · exact hkd j hj hf2 h1 (by omega)
    · rw [if_pos (by rw [bne_iff_ne]; exact hb), if_pos (by omega), if_pos (by omega), ih (i + 1) i k _ (by omega) (by omega) ?_ (by omega) (by simp; omega)]
      · rw [Int.toNat_natCast, Int.toNat_natCast, ext_ba, pieces_cut s f i hf (by omega) hkd (fun _ => hb)]
        simp
      · intro j hj hf2 h1 h2
        obtain rfl : j = i := by omega
        rfl
theorem rtokens_f (s : ByteArray) (hs : s.size < 8000000000000) (k : Nat) (hk : s.size + 3 ≤ k) : counterpaneref05_Tokens.f k s = some (tokOf s) := by
  unfold counterpaneref05_Tokens.f
  rw [tokOf_eq]
  by_cases hz : s.size = 0
  · obtain ⟨k, rfl⟩ : ∃ m, k = m + 1 := ⟨k - 1, by omega⟩
    rw [counterpaneref05_Tokens.l0, if_neg (by omega), show bl s = [] from List.eq_nil_of_length_eq_zero hz]
    rfl
  · have h := rtokens_l s hs (s.size - 1) 1 0 k [] (by omega) (by omega) (fun j hj hf h1 h2 => by
      obtain rfl : j = 0 := by omega
      rfl) (by omega) (by simp)
    rw [List.drop_zero, List.nil_append] at h
    exact h
/-! ## Replace -/
def swapL (f t : ByteArray) (l : List ByteArray) : List UInt8 := (l.map fun x => bl (if x = f then t else x)).flatten
theorem swapL_next (f t : ByteArray) (l : List ByteArray) (i : Nat) (h : i < l.length) : swapL f t (l.take (i + 1)) = swapL f t (l.take i) ++ bl (if l[i]'h = f then t else l[i]'h) := by
  unfold swapL
  rw [← List.take_append_getElem h, List.map_append, List.flatten_append]
  simp
theorem swapL_part (f t : ByteArray) (l : List ByteArray) (i : Nat) (h : i < l.length) : (swapL f t (l.take i)).length + (if l[i]'h = f then t else l[i]'h).size ≤ (swapL f t l).length := by
  have e := congrArg List.length (swapL_next f t l i h)
  rw [List.length_append, bl_size] at e
  have e2 : (swapL f t (l.take (i + 1))).length ≤ (swapL f t l).length := by
    conv => rhs; rw [← List.take_append_drop (i + 1) l]
    unfold swapL
    rw [List.map_append, List.flatten_append, List.length_append]
    omega
  omega
theorem rrepl_l (f t : ByteArray) (l : List ByteArray) (hl : l.length < 8000000000000) (hb : (swapL f t l).length < 8000000000000) : ∀ (d i k : Nat), i + d = l.length → d < k →
    counterpaneref05_Replace.l0 k f t l (nm (swapL f t (l.take i))) (i : Int) = some (ba (swapL f t l)) := by
  intro d
  induction d with
  | zero =>
    intro i k hd hk
    obtain ⟨k, rfl⟩ : ∃ m, k = m + 1 := ⟨k - 1, by omega⟩
    rw [counterpaneref05_Replace.l0, if_neg (by omega), List.take_of_length_le (by omega), str_nm]
  | succ d ih =>
    intro i k hd hk
    obtain ⟨k, rfl⟩ : ∃ m, k = m + 1 := ⟨k - 1, by omega⟩
    have hi : i < l.length := by omega
    have hp := swapL_part f t l i hi
    have hn := swapL_next f t l i hi
    have h2 := ih (i + 1) k (by omega) (by omega)
    rw [counterpaneref05_Replace.l0, if_pos (by omega), if_pos (by omega), rdOf_nat _ _ _ hi, wrap_succ _ (by omega)]
    by_cases e : l[i]'hi = f
    · rw [if_pos e] at hp hn
      rw [if_pos ((bytes_eq _ _).2 e), if_pos (by rw [nm_length]; omega), bytesOf_nm, ← nm_append, ← hn]
      exact h2
    · rw [if_neg e] at hp hn
      rw [if_neg (fun h => e ((bytes_eq _ _).1 h)), if_pos (by rw [nm_length]; omega), bytesOf_nm, ← nm_append, ← hn]
      exact h2
theorem swapL_repl (s f t : ByteArray) (hf : tokenB (bl f) = true) : ba (swapL f t (tokOf s)) = replB s f t := by
  unfold swapL replB replaced flat
  rw [tokOf_eq, List.map_map, List.map_map]
  congr 2
  apply List.map_congr_left
  rintro ⟨y, k⟩ hp
  show bl (if ba y = f then t else ba y) = (swap (bl f) (bl t) (y, k)).1
  unfold swap
  have h1 := (alt_token _ (pieces_alt (bl s)).1 _ hp).1
  by_cases e : ba y = f
  · have e2 : y = bl f := (ba_eq _ _).1 e
    have hk : k = true := by
      show (y, k).2 = true
      rw [← h1]
      show tokenB y = true
      rw [e2]
      exact hf
    rw [if_pos e, if_pos ⟨hk, e2⟩]
  · rw [if_neg e, if_neg (fun h => e ((ba_eq _ _).2 h.2)), bl_ba]
theorem rrepl_f (s f t : ByteArray) (hs : s.size ≤ 100000) (hf : f.size ≤ 10000) (ht : t.size ≤ 10000) : counterpaneref05_Replace.f (s.size + f.size + 4) s f t = some (replB s f t) := by
  unfold counterpaneref05_Replace.f
  rw [rtoken_f f (by omega) _ (by omega), Option.bind_some]
  cases h : tokenB (bl f) with
  | false => rw [if_neg (by simp), repl_not s f t (fun _ => h)]
  | true =>
    rw [if_pos rfl, rtokens_f s (by omega) _ (by omega), Option.bind_some, ← swapL_repl s f t h]
    have hl := tokOf_len s
    have hsz := repl_size s f t
    have hmul : s.size * t.size ≤ 100000 * 10000 := Nat.mul_le_mul (by omega) (by omega)
    rw [← swapL_repl s f t h, ← bl_size, bl_ba] at hsz
    have := rrepl_l f t (tokOf s) (by omega) (by omega) (tokOf s).length 0 (s.size + f.size + 4) (by omega) (by omega)
    simpa [swapL, nm] using this
end Go.Proofs.YtmhpnidhokcaeaaDoor
