/- strings.IndexRune, ContainsRune of the 16 digits, at any rune; Named. -/
import Derived.Test.YtnjdighpdcabcaaProg
import Derived.Test.YtnjdighpdcabcaaShelf
import Derived.Test.YtnjdighpdcabcaaRegion
import Derived.WalkSpells
import Derived.WalkLawsBesides
import Derived.Below
import Derived.Lib.Hide
import Derived.Scope
import Derived.Test.YtnjdighpdcabcaaPStoreClashx1
set_option linter.unusedVariables false
set_option linter.unusedSimpArgs false
namespace Go.Proofs.Ytnjdighpdcabcaa
open Go.RowKit Go.Proofs.YtnjdighpdcabcaaW.PrintWords Go.Proofs.YtnjdighpdcabcaaW.PrintLast

def DG : ByteArray := ⟨#[48, 49, 50, 51, 52, 53, 54, 55, 56, 57, 97, 98, 99, 100, 101, 102]⟩

def encOf (c : Nat) : ByteArray :=
  if c < 128 then ⟨#[UInt8.ofNat c]⟩
  else if c < 2048 then ⟨#[UInt8.ofNat (192 + c / 64), UInt8.ofNat (128 + c % 64)]⟩
  else if c < 65536 then ⟨#[UInt8.ofNat (224 + c / 4096), UInt8.ofNat (128 + c / 64 % 64), UInt8.ofNat (128 + c % 64)]⟩
  else ⟨#[UInt8.ofNat (240 + c / 262144), UInt8.ofNat (128 + c / 4096 % 64), UInt8.ofNat (128 + c / 64 % 64), UInt8.ofNat (128 + c % 64)]⟩
theorem encode_of (r : Int) : Utf8.encode r = encOf (if Utf8.valid r = true then r.toNat else Utf8.runeError) := rfl
theorem last_hi (n : Nat) : 128 ≤ (UInt8.ofNat (128 + n % 64)).toNat := by
  rw [UInt8.toNat_ofNat']
  have : n % 64 < 64 := Nat.mod_lt _ (by decide)
  omega
theorem encOf_last (c : Nat) (h : 128 ≤ c) : ∃ k, 1 ≤ k ∧ k ≤ 3 ∧ (encOf c).size = k + 1 ∧ ∀ hk : k < (encOf c).size, 128 ≤ ((encOf c)[k]'hk).toNat := by
  have e : encOf c = ⟨#[UInt8.ofNat (192 + c / 64), UInt8.ofNat (128 + c % 64)]⟩ ∨ encOf c = ⟨#[UInt8.ofNat (224 + c / 4096), UInt8.ofNat (128 + c / 64 % 64), UInt8.ofNat (128 + c % 64)]⟩ ∨ encOf c = ⟨#[UInt8.ofNat (240 + c / 262144), UInt8.ofNat (128 + c / 4096 % 64), UInt8.ofNat (128 + c / 64 % 64), UInt8.ofNat (128 + c % 64)]⟩ := by
    unfold encOf
    rw [if_neg (by omega)]
    by_cases h1 : c < 2048
    · rw [if_pos h1]; exact Or.inl rfl
    · rw [if_neg h1]
      by_cases h3 : c < 65536
      · rw [if_pos h3]; exact Or.inr (Or.inl rfl)
      · rw [if_neg h3]; exact Or.inr (Or.inr rfl)
  rcases e with e | e | e <;> rw [e]
  · exact ⟨1, by decide, by decide, rfl, fun _ => last_hi c⟩
  · exact ⟨2, by decide, by decide, rfl, fun _ => last_hi c⟩
  · exact ⟨3, by decide, by decide, rfl, fun _ => last_hi c⟩
theorem err_hi : 128 ≤ Utf8.runeError := by
  unfold Utf8.runeError
  omega
theorem enc_last (r : Nat) (h : 128 ≤ r) (E : ByteArray) (hE : E = Utf8.encode (r : Int)) : ∃ k, 1 ≤ k ∧ k ≤ 3 ∧ E.size = k + 1 ∧ ∀ hk : k < E.size, 128 ≤ (E[k]'hk).toNat := by
  have h1 := encode_of (r : Int)
  rw [← hE] at h1
  have h2 : ∃ c, E = encOf c ∧ 128 ≤ c := by
    by_cases hv : Utf8.valid (r : Int) = true
    · rw [if_pos hv, Int.toNat_natCast] at h1
      exact ⟨r, h1, h⟩
    · rw [if_neg hv] at h1
      exact ⟨_, h1, err_hi⟩
  obtain ⟨c, rfl, hc⟩ := h2
  exact encOf_last c hc
theorem indexByte_not (l : List UInt8) (c : UInt8) (h : ∀ b ∈ l, b ≠ c) : Lib.indexByte l c = -1 := by
  induction l with
  | nil => rfl
  | cons b l ih =>
    rw [Lib.indexByte, ih (fun x hx => h x (List.mem_cons_of_mem _ hx)), if_neg (by simpa using h b List.mem_cons_self)]
    rfl

set_option maxRecDepth 1000000 in
theorem dg_extract (k : Nat) (h : k ≤ 3) : ∀ b ∈ (DG.extract (k + 1) DG.size).data.toList, b.toNat < 128 := by
  have : ∀ k : Fin 4, ∀ b ∈ (DG.extract (k.val + 1) DG.size).data.toList, b.toNat < 128 := by decide
  exact this ⟨k, by omega⟩

set_option maxRecDepth 1000000 in
set_option maxHeartbeats 4000000 in
theorem indexRune_hi (r : Nat) (h : 128 ≤ r) (h2 : r ≤ 1114111) (w : World) :
    Calls Try.prog 61 #[.string DG, .int .i32 r] w fun e w' => e = .returned (.int .i64 (-1)) ∧ Below w.heap.size w w' := by
  have h128 : ¬ ((r : Int) < 128) := by omega
  have h0 : (0 : Int) ≤ r := by omega
  by_cases he : r = 65533
  · subst he
    go_enter Try.func61, Try.ntmps61
    go_wp2_with fail
    go_loopg [] 16 (fun gf wx => ∃ pos : Nat, wx.heap[w.heap.size]? = some (.stringIter DG pos) ∧ Below w.heap.size w wx ∧ pos + gf = 16)
    case atStart => exact ⟨0, World.iter_heap w DG 0, (Below.refl _ w).alloc (Nat.le_refl _) _, rfl⟩
    case round =>
      obtain ⟨pos, hit, hbw, hfu⟩ := hrel
      by_cases hps : pos < DG.size
      · have hps2 : pos < 16 := hps
        obtain ⟨g', rfl⟩ : ∃ g', gk = g' + 1 := ⟨gk - 1, by omega⟩
        have hda : ∀ p : Fin 16, (DG[p.val]'p.isLt).toNat < 128 := by decide
        have hdec := decode_ascii DG pos hps (hda ⟨pos, hps2⟩)
        have hnx : ∀ ty, (Instr.next (.pointer (some ⟨w.heap.size, 0, none⟩)) true ty).run Try.prog wr = _ := fun ty => Lib.run_next_any_at wr w.heap.size DG pos ty hit hps
        obtain ⟨R, hR, hR2⟩ : ∃ R, R = (DG[pos]'hps).toNat ∧ R < 128 := ⟨_, rfl, hda ⟨pos, hps2⟩⟩
        rw [hdec, ← hR] at hnx
        simp only at hnx
        have hit2 := Lib.iterAt_heap wr w.heap.size DG pos (pos + 1) hit
        have hbw2 := Lib.below_iterAt hbw (k := w.heap.size) (Nat.le_refl _) DG (pos + 1)
        obtain ⟨W, hWd⟩ : ∃ W, wr.iterAt w.heap.size DG (pos + 1) = W := ⟨_, rfl⟩
        rw [hWd] at hnx hit2 hbw2
        have hRn : ¬ ((R : Int) = 65533) := by omega
        clear hdec hda hR hWd
        go_wp2_with fail
        go_roundg g'
        case measure => omega
        case rel => exact ⟨pos + 1, hit2, hbw2, by omega⟩
      · have hnx : ∀ ty, (Instr.next (.pointer (some ⟨w.heap.size, 0, none⟩)) true ty).run Try.prog wr = _ := fun ty => Lib.run_next_end_at wr w.heap.size DG pos ty hit hps
        go_wp2_with fail
        go_ret
        exact ⟨rfl, hbw⟩
  · have he1 : ¬ ((r : Int) = 65533) := by omega
    go_enter Try.func61, Try.ntmps61
    go_wp2_with (go_at_call 70; refine (Try.utf8_ValidRune _ _).mono ?_; rintro e w' ⟨rfl, rfl⟩)
    · go_ret
      exact ⟨rfl, Below.refl _ _⟩
    · obtain ⟨E, hE⟩ : ∃ E, E = Utf8.encode (r : Int) := ⟨_, rfl⟩
      obtain ⟨k, hk1, hk3, hks, hkl⟩ := enc_last r h E hE
      have hkE : k < E.size := by omega
      have hlast := hkl hkE
      refine wp_scope_straight ?_
      go_wp2_with fail
      rw [← hE, show wrap64 ((E.size : Int) - 1) = (k : Int) by rw [hks]; unfold wrap64; omega]
      have HE := Lib.hid hE
      clear hE hkl
      go_loopw [9] (fun v wr => v = .int .i64 (k : Int) ∧ Below w'.heap.size w' wr) (fun _ _ => 0)
      case atStart => exact ⟨rfl, Below.refl _ _⟩
      case round =>
        obtain ⟨rfl, hB⟩ := hrel
        have HB := Lib.hid hB
        clear hB
        have hk16 : k < DG.size := by show k < 16; omega
        have hk17 : (k : Int) < (DG.size : Int) := by omega
        have hd : (DG[k]'hk16).toNat < 128 := by
          have hda : ∀ p : Fin 16, (DG[p.val]'p.isLt).toNat < 128 := by decide
          exact hda ⟨k, hk16⟩
        have hne : ¬ (((DG[k]'hk16).toNat : Int) = ((E[k]'hkE).toNat : Int)) := by omega
        have hkE2 : (k : Int) < (E.size : Int) := by omega
        have hk18 : (k : Int) + 1 ≤ (DG.size : Int) := by omega
        have HW := Lib.hid (show IntKind.i64.wrap ((k : Int) + 1) = ((k + 1 : Nat) : Int) by rw [i64_w]; unfold wrap64; omega)
        clear hks
        go_wp2_with fail
        refine wp_scope_straight ?_
        go_upto_region 6 with (fail)
        refine start_ (S := fun _ => True) (ds := []) (n := 7) #[false, false, false, false, false, false, false] rfl rfl rfl ?hS0 (fun hHeld => ?hrun)
        case hS0 => trivial
        case hrun =>
          refine pure_ (i := 0) (N := some 27) (v := ?_) (a' := ?_) #[true, false, false, false, false, false, false] rfl rfl (by kernel_rfl) (fun _ _ _ h => h) (Or.inl ⟨by rfl, ?_⟩) ?_ ?_
          rotate_left
          · intro w'
            go_simp
            first | done | with_reducible rfl
          rotate_left
          · simp only [Act.put, List.setIfInBounds_toArray, List.set_cons_zero, List.set_cons_succ, i64_w, i32_w]
            rfl
          refine pure_ (i := 1) (N := some 28) (v := ?_) (a' := ?_) #[true, true, false, false, false, false, false] rfl rfl (by kernel_rfl) (fun _ _ _ h => h) (Or.inl ⟨by rfl, ?_⟩) ?_ ?_
          rotate_left
          · intro w'
            go_simp
            first | done | with_reducible rfl
          rotate_left
          · simp only [Act.put, List.setIfInBounds_toArray, List.set_cons_zero, List.set_cons_succ, i64_w, i32_w]
            rfl
          refine pure_ (i := 2) (N := some 29) (v := ?_) (a' := ?_) #[true, true, true, false, false, false, false] rfl rfl (by kernel_rfl) (fun _ _ _ h => h) (Or.inl ⟨by rfl, ?_⟩) ?_ ?_
          rotate_left
          · intro w'
            go_simp
            first | done | with_reducible rfl
          rotate_left
          · simp only [Act.put, List.setIfInBounds_toArray, List.set_cons_zero, List.set_cons_succ, i64_w, i32_w]
            rfl
          refine pure_ (i := 3) (N := some 30) (v := ?_) (a' := ?_) #[true, true, true, true, false, false, false] rfl rfl (by kernel_rfl) (fun _ _ _ h => h) (Or.inl ⟨by rfl, ?_⟩) ?_ ?_
          rotate_left
          · intro w'
            go_simp
            first | done | with_reducible rfl
          rotate_left
          · simp only [Act.put, List.setIfInBounds_toArray, List.set_cons_zero, List.set_cons_succ, i64_w, i32_w]
            rfl
          refine pure_ (i := 4) (N := some 31) (v := ?_) (a' := ?_) #[true, true, true, true, true, false, false] rfl rfl (by kernel_rfl) (fun _ _ _ h => h) (Or.inl ⟨by rfl, ?_⟩) ?_ ?_
          rotate_left
          · intro w'
            go_simp
            first | done | with_reducible rfl
          rotate_left
          · simp only [Act.put, List.setIfInBounds_toArray, List.set_cons_zero, List.set_cons_succ, i64_w, i32_w]
            rfl
          refine pure_ (i := 5) (N := some 32) (v := ?_) (a' := ?_) #[true, true, true, true, true, true, false] rfl rfl (by kernel_rfl) (fun _ _ _ h => h) (Or.inl ⟨by rfl, ?_⟩) ?_ ?_
          rotate_left
          · intro w'
            go_simp
            first | done | with_reducible rfl
          rotate_left
          · simp only [Act.put, List.setIfInBounds_toArray, List.set_cons_zero, List.set_cons_succ, i64_w, i32_w]
            rfl
          refine pure_ (i := 6) (N := some 33) (v := ?_) (a' := ?_) #[true, true, true, true, true, true, true] rfl rfl (by kernel_rfl) (fun _ _ _ h => h) (Or.inl ⟨by rfl, ?_⟩) ?_ ?_
          rotate_left
          · intro w'
            go_simp
            first | done | with_reducible rfl
          rotate_left
          · simp only [Act.put, List.setIfInBounds_toArray, List.set_cons_zero, List.set_cons_succ, i64_w, i32_w]
            rfl
          refine tail_list 7 (t := []) (fuel := 0) rfl rfl rfl (by kernel_rfl) (by decide) ?_
          go_upto_region 7 with (fail)
          refine start_ (S := fun _ => True) (ds := [8]) (n := 9) #[false, false, false, false, false, false, false, false, false] rfl rfl rfl ?hS0 (fun hHeld => ?hrun)
          case hS0 => trivial
          case hrun =>
            refine pure_ (i := 0) (N := some 34) (v := ?_) (a' := ?_) #[true, false, false, false, false, false, false, false, false] rfl rfl (by kernel_rfl) (fun _ _ _ h => h) (Or.inl ⟨by rfl, ?_⟩) ?_ ?_
            rotate_left
            · intro w'
              go_simp
              first | done | with_reducible rfl
            rotate_left
            · simp only [Act.put, List.setIfInBounds_toArray, List.set_cons_zero, List.set_cons_succ, i64_w, i32_w]
              rfl
            refine pure_ (i := 1) (N := some 35) (v := ?_) (a' := ?_) #[true, true, false, false, false, false, false, false, false] rfl rfl (by kernel_rfl) (fun _ _ _ h => h) (Or.inl ⟨by rfl, ?_⟩) ?_ ?_
            rotate_left
            · intro w'
              go_simp
              first | done | with_reducible rfl
            rotate_left
            · simp only [Act.put, List.setIfInBounds_toArray, List.set_cons_zero, List.set_cons_succ, i64_w, i32_w]
              rfl
            refine pure_ (i := 2) (N := some 36) (v := ?_) (a' := ?_) #[true, true, true, false, false, false, false, false, false] rfl rfl (by kernel_rfl) (fun _ _ _ h => h) (Or.inl ⟨by rfl, ?_⟩) ?_ ?_
            rotate_left
            · intro w'
              go_simp; rw [HW.out]
              first | done | with_reducible rfl
            rotate_left
            · simp only [Act.put, List.setIfInBounds_toArray, List.set_cons_zero, List.set_cons_succ, i64_w, i32_w]
              rfl
            refine pure_ (i := 3) (N := some 37) (v := ?_) (a' := ?_) #[true, true, true, true, false, false, false, false, false] rfl rfl (by kernel_rfl) (fun _ _ _ h => h) (Or.inl ⟨by rfl, ?_⟩) ?_ ?_
            rotate_left
            · intro w'
              go_simp; rw [if_pos (by omega)]
              first | done | with_reducible rfl
            rotate_left
            · simp only [Act.put, List.setIfInBounds_toArray, List.set_cons_zero, List.set_cons_succ, i64_w, i32_w]
              rfl
            refine pure_ (i := 4) (N := some 38) (v := ?_) (a' := ?_) #[true, true, true, true, true, false, false, false, false] rfl rfl (by kernel_rfl) (fun _ _ _ h => h) (Or.inl ⟨by rfl, ?_⟩) ?_ ?_
            rotate_left
            · intro w'
              go_simp
              first | done | with_reducible rfl
            rotate_left
            · simp only [Act.put, List.setIfInBounds_toArray, List.set_cons_zero, List.set_cons_succ, i64_w, i32_w]
              rfl
            refine pure_ (i := 5) (N := some 39) (v := ?_) (a' := ?_) #[true, true, true, true, true, true, false, false, false] rfl rfl (by kernel_rfl) (fun _ _ _ h => h) (Or.inl ⟨by rfl, ?_⟩) ?_ ?_
            rotate_left
            · intro w'
              go_simp
              first | done | with_reducible rfl
            rotate_left
            · simp only [Act.put, List.setIfInBounds_toArray, List.set_cons_zero, List.set_cons_succ, i64_w, i32_w]
              rfl
            refine pure_ (i := 6) (N := some 40) (v := ?_) (a' := ?_) #[true, true, true, true, true, true, true, false, false] rfl rfl (by kernel_rfl) (fun _ _ _ h => h) (Or.inl ⟨by rfl, ?_⟩) ?_ ?_
            rotate_left
            · intro w'
              go_simp
              first | done | with_reducible rfl
            rotate_left
            · simp only [Act.put, List.setIfInBounds_toArray, List.set_cons_zero, List.set_cons_succ, i64_w, i32_w]
              rfl
            refine one_ (i := 7) (N := some 41) #[true, true, true, true, true, true, true, true, false] rfl rfl (by kernel_rfl) (by decide) (fun K hK => ?_)
            refine goes_ Try.func69 (by kernel_rfl) rfl #[.string (DG.extract (k + 1) DG.size), .int .u8 ((E[k]'hkE).toNat : Int)] (by rfl) rfl rfl (by (try simp only [List.map_toArray, List.map_cons, List.map_nil]); first | done | rfl) ?_
            refine (Try.strings_IndexByte _ _ _).mono ?_
            rintro e w2 ⟨rfl, rfl⟩
            rw [indexByte_not]
            rotate_left
            · intro b hb e
              have h1 := dg_extract k hk3 b hb
              rw [e] at h1
              have h3 := (E[k]'hkE).toNat_lt
              simp at h1
              omega
            refine ⟨_, rfl, ?_⟩
            refine hK.out _ _ trivial (fun hHeld1 => ?_)
            clear hK K
            refine norm_ (a' := ?_) ?_ ?_
            rotate_left
            · show Act.put _ (some 41) _ = _
              simp only [Act.put, List.setIfInBounds_toArray, List.set_cons_zero, List.set_cons_succ, i64_w, i32_w]
              rfl
            refine tail_list 8 (t := [8]) (fuel := 0) rfl rfl rfl (by kernel_rfl) (by decide) ?_
            go_wp2_with fail
            rw [Exit.noGoto_ret]
            go_wp2_with fail
            try rw [Exit.noGoto_ret]
            go_ret
            exact ⟨rfl, HB.out.drew.drew⟩
end Go.Proofs.Ytnjdighpdcabcaa
/- Named: is a text 64 digits? -/
set_option linter.unusedVariables false
set_option linter.unusedSimpArgs false
namespace Go.Proofs.Ytnjdighpdcabcaa
open Go.RowKit Go.Proofs.YtnjdighpdcabcaaW.PrintWords Go.Proofs.YtnjdighpdcabcaaW.PrintLast

def hexN (x : Nat) : Bool := decide ((48 ≤ x ∧ x ≤ 57) ∨ (97 ≤ x ∧ x ≤ 102))
def named (s : ByteArray) : Bool := decide (s.size = 64) && s.data.toList.all fun b => hexN b.toNat

set_option maxRecDepth 1000000 in
theorem hexN_digits (x : Nat) (h : x < 128) : decide (0 ≤ Lib.indexByte DG.data.toList ((x : Int)).toNat.toUInt8) = hexN x := by
  have : ∀ x : Fin 128, decide (0 ≤ Lib.indexByte DG.data.toList ((x.val : Int)).toNat.toUInt8) = hexN x.val := by decide
  exact this ⟨x, h⟩
theorem hexN_hi (x : Nat) (h : 128 ≤ x) : hexN x = false := by
  unfold hexN
  exact decide_eq_false (by omega)
theorem contains_any (x : Nat) (hx : x ≤ 1114111) (w : World) :
    Calls Try.prog 43 #[.string DG, .int .i32 x] w fun e w' => e = .returned (.bool (hexN x)) ∧ Below w.heap.size w w' := by
  by_cases h : x < 128
  · refine (Try.strings_ContainsRune_ascii DG x w (by omega) (by omega)).mono ?_
    rintro e w' ⟨rfl, rfl⟩
    rw [hexN_digits x h]
    exact ⟨rfl, Below.refl _ _⟩
  · rw [hexN_hi x (by omega)]
    go_enter Try.func43, Try.ntmps43
    go_wp2_with fail
    refine (indexRune_hi x (by omega) hx w).mono ?_
    rintro e w' ⟨rfl, hB⟩
    have HB := Lib.hid hB
    clear hB
    go_wp2_with fail
    go_ret
    exact ⟨rfl, HB.out⟩
theorem pred_any (x : Nat) (hx : x ≤ 1114111) (w : World) :
    Calls Try.prog 42 #[.int .i32 x] w fun e w' => e = .returned (.bool (!hexN x)) ∧ Below w.heap.size w w' := by
  go_enter Try.func42, Try.ntmps42
  go_wp2_with fail
  refine (contains_any x hx w).mono ?_
  rintro e w' ⟨rfl, hB⟩
  have HB := Lib.hid hB
  clear hB
  go_wp2_with fail
  go_ret
  exact ⟨rfl, HB.out⟩

theorem decode_hi (s : ByteArray) (pos : Nat) (h : pos < s.size) (hb : 128 ≤ (s[pos]'h).toNat) : 128 ≤ (Utf8.decode s pos).1 := by
  have e : s.get! (pos + 0) = s[pos]'h := by
    show s.get! pos = _
    simp [ByteArray.get!, getElem!_pos, h]
    rfl
  unfold Utf8.decode
  have he : 128 ≤ Utf8.runeError := err_hi
  simp only [e]
  rw [if_neg (by omega)]
  split
  · split
    · simp only; omega
    · exact he
  · split
    · split
      · rename_i h1
        simp only [Bool.and_eq_true, decide_eq_true_eq] at h1
        simp only; omega
      · exact he
    · split
      · split
        · rename_i h1
          simp only [Bool.and_eq_true, decide_eq_true_eq] at h1
          simp only; omega
        · exact he
      · exact he
theorem idx_bad (s : ByteArray) : ∀ (f pos : Nat), s.size ≤ pos + f → (decide (0 ≤ Lib.idxFuncFrom (fun x => !hexN x) true s f pos)) = !((s.data.toList.drop pos).all fun b => hexN b.toNat)
  | 0, pos, h => by
    rw [List.drop_eq_nil_of_le (by simpa using h)]
    rfl
  | f + 1, pos, h => by
    by_cases hp : pos < s.size
    · have hd : s.data.toList.drop pos = (s[pos]'hp) :: s.data.toList.drop (pos + 1) := by
        rw [List.drop_eq_getElem_cons (by simpa using hp)]
        rfl
      rw [hd, List.all_cons, Lib.idxFuncFrom, if_pos hp]
      by_cases ha : (s[pos]'hp).toNat < 128
      · rw [decode_ascii s pos hp ha]
        simp only
        cases hx : hexN (s[pos]'hp).toNat
        · rw [Bool.not_false, if_pos rfl]
          simp
        · rw [Bool.not_true, if_neg (by decide), Bool.true_and]
          exact idx_bad s f (pos + 1) (by omega)
      · have h1 := decode_hi s pos hp (by omega)
        rw [hexN_hi _ h1, hexN_hi _ (by omega : 128 ≤ (s[pos]'hp).toNat), Bool.not_false, if_pos rfl]
        simp
    · rw [List.drop_eq_nil_of_le (by simpa using hp), Lib.idxFuncFrom_end _ _ _ _ _ hp]
      rfl

theorem named_any (s : ByteArray) (w : World) :
    Calls Try.prog 22 #[.string s] w fun e w' => e = .returned (.bool (named s)) ∧ Below w.heap.size w w' := by
  have eg : ∀ args w, (callFunc 42 args).run Try.prog w = .ok (.enter 42 args) w := enters_of Try.func42 (by kernel_rfl) rfl
  have hp : PredGrows Try.prog 42 #[] (fun x => !hexN x) w := fun W x hx _ => pred_any x hx W
  have hc := Try.strings_ContainsFunc_grows 42 #[] eg (fun x => !hexN x) s w hp
  have hi : decide (0 ≤ Lib.idxFunc (fun x => !hexN x) true s) = !(s.data.toList.all fun b => hexN b.toNat) := by
    have := idx_bad s s.size 0 (by omega)
    rw [List.drop_zero] at this
    exact this
  rw [hi] at hc
  obtain ⟨q, hq⟩ : ∃ q, q = s.data.toList.all fun b => hexN b.toNat := ⟨_, rfl⟩
  have e : named s = (decide (s.size = 64) && q) := by rw [hq]; rfl
  rw [e]
  rw [← hq] at hc
  have HC := Lib.hid hc
  clear hc hi hp eg hq e
  by_cases h64 : s.size = 64
  · have h1 : ((s.size : Int) = 64) := by omega
    go_enter Try.func22, Try.ntmps22
    go_wp2_with fail
    refine HC.out.mono ?_
    rintro e w' ⟨rfl, hB⟩
    have HB := Lib.hid hB
    clear hB
    go_wp2_with fail
    go_ret
    exact ⟨by simp [h64], HB.out⟩
  · have h1 : ¬ ((s.size : Int) = 64) := by omega
    go_enter Try.func22, Try.ntmps22
    go_wp2_with fail
    go_ret
    exact ⟨by simp [h64], Below.refl _ _⟩
end Go.Proofs.Ytnjdighpdcabcaa
