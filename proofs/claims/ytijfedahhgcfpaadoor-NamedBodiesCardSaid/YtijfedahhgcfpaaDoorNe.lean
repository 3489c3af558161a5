/- strings.IndexRune of the letters of file names, at any rune. -/
import Derived.Test.YtijfedahhgcfpaaDoorProg
import Derived.Test.YtijfedahhgcfpaaDoorShelf
import Derived.Test.YtijfedahhgcfpaaDoorRegion
import Derived.WalkSpells
import Derived.WalkLawsBesides
import Derived.Below
import Derived.Lib.Hide
import Derived.Scope
set_option linter.unusedVariables false
set_option linter.unusedSimpArgs false
namespace Go.Proofs.YtijfedahhgcfpaaDoor
open Go.RowKit Go.Proofs.YtijfedahhgcfpaaDoorW.PrintWords Go.Proofs.YtijfedahhgcfpaaDoorW.PrintLast

def DGL : ByteArray := ⟨#[97, 98, 99, 100, 101, 102, 103, 104, 105, 106, 107, 108, 109, 110, 111, 112, 113, 114, 115, 116, 117, 118, 119, 120, 121, 122, 48, 49, 50, 51, 52, 53, 54, 55, 56, 57, 46, 45]⟩

def encOfL (c : Nat) : ByteArray :=
  if c < 128 then ⟨#[UInt8.ofNat c]⟩
  else if c < 2048 then ⟨#[UInt8.ofNat (192 + c / 64), UInt8.ofNat (128 + c % 64)]⟩
  else if c < 65536 then ⟨#[UInt8.ofNat (224 + c / 4096), UInt8.ofNat (128 + c / 64 % 64), UInt8.ofNat (128 + c % 64)]⟩
  else ⟨#[UInt8.ofNat (240 + c / 262144), UInt8.ofNat (128 + c / 4096 % 64), UInt8.ofNat (128 + c / 64 % 64), UInt8.ofNat (128 + c % 64)]⟩
theorem encode_ofL (r : Int) : Utf8.encode r = encOfL (if Utf8.valid r = true then r.toNat else Utf8.runeError) := rfl
theorem last_hiL (n : Nat) : 128 ≤ (UInt8.ofNat (128 + n % 64)).toNat := by
  rw [UInt8.toNat_ofNat']
  have : n % 64 < 64 := Nat.mod_lt _ (by decide)
  omega
theorem encOf_lastL (c : Nat) (h : 128 ≤ c) : ∃ k, 1 ≤ k ∧ k ≤ 3 ∧ (encOfL c).size = k + 1 ∧ ∀ hk : k < (encOfL c).size, 128 ≤ ((encOfL c)[k]'hk).toNat := by
  have e : encOfL c = ⟨#[UInt8.ofNat (192 + c / 64), UInt8.ofNat (128 + c % 64)]⟩ ∨ encOfL c = ⟨#[UInt8.ofNat (224 + c / 4096), UInt8.ofNat (128 + c / 64 % 64), UInt8.ofNat (128 + c % 64)]⟩ ∨ encOfL c = ⟨#[UInt8.ofNat (240 + c / 262144), UInt8.ofNat (128 + c / 4096 % 64), UInt8.ofNat (128 + c / 64 % 64), UInt8.ofNat (128 + c % 64)]⟩ := by
    unfold encOfL
    rw [if_neg (by omega)]
    by_cases h1 : c < 2048
    · rw [if_pos h1]; exact Or.inl rfl
    · rw [if_neg h1]
      by_cases h3 : c < 65536
      · rw [if_pos h3]; exact Or.inr (Or.inl rfl)
      · rw [if_neg h3]; exact Or.inr (Or.inr rfl)
  rcases e with e | e | e <;> rw [e]
  · exact ⟨1, by decide, by decide, rfl, fun _ => last_hiL c⟩
  · exact ⟨2, by decide, by decide, rfl, fun _ => last_hiL c⟩
  · exact ⟨3, by decide, by decide, rfl, fun _ => last_hiL c⟩
theorem err_hiL : 128 ≤ Utf8.runeError := by
  unfold Utf8.runeError
  omega
theorem enc_lastL (r : Nat) (h : 128 ≤ r) (E : ByteArray) (hE : E = Utf8.encode (r : Int)) : ∃ k, 1 ≤ k ∧ k ≤ 3 ∧ E.size = k + 1 ∧ ∀ hk : k < E.size, 128 ≤ (E[k]'hk).toNat := by
  have h1 := encode_ofL (r : Int)
  rw [← hE] at h1
  have h2 : ∃ c, E = encOfL c ∧ 128 ≤ c := by
    by_cases hv : Utf8.valid (r : Int) = true
    · rw [if_pos hv, Int.toNat_natCast] at h1
      exact ⟨r, h1, h⟩
    · rw [if_neg hv] at h1
      exact ⟨_, h1, err_hiL⟩
  obtain ⟨c, rfl, hc⟩ := h2
  exact encOf_lastL c hc
theorem indexByte_notL (l : List UInt8) (c : UInt8) (h : ∀ b ∈ l, b ≠ c) : Lib.indexByte l c = -1 := by
  induction l with
  | nil => rfl
  | cons b l ih =>
    rw [Lib.indexByte, ih (fun x hx => h x (List.mem_cons_of_mem _ hx)), if_neg (by simpa using h b List.mem_cons_self)]
    rfl

set_option maxRecDepth 1000000 in
theorem dg_extractL (k : Nat) (h : k ≤ 3) : ∀ b ∈ (DGL.extract (k + 1) DGL.size).data.toList, b.toNat < 128 := by
  have : ∀ k : Fin 4, ∀ b ∈ (DGL.extract (k.val + 1) DGL.size).data.toList, b.toNat < 128 := by decide
  exact this ⟨k, by omega⟩

set_option maxRecDepth 1000000 in
set_option maxHeartbeats 4000000 in
theorem indexRune_hiL (r : Nat) (h : 128 ≤ r) (h2 : r ≤ 1114111) (w : World) :
    Calls Tryd.prog 51 #[.string DGL, .int .i32 r] w fun e w' => e = .returned (.int .i64 (-1)) ∧ Below w.heap.size w w' := by
  have h128 : ¬ ((r : Int) < 128) := by omega
  have h0 : (0 : Int) ≤ r := by omega
  by_cases he : r = 65533
  · subst he
    go_enter Tryd.func51, Tryd.ntmps51
    go_wp2_with fail
    go_loopg [] 38 (fun gf wx => ∃ pos : Nat, wx.heap[w.heap.size]? = some (.stringIter DGL pos) ∧ Below w.heap.size w wx ∧ pos + gf = 38)
    case atStart => exact ⟨0, World.iter_heap w DGL 0, (Below.refl _ w).alloc (Nat.le_refl _) _, rfl⟩
    case round =>
      obtain ⟨pos, hit, hbw, hfu⟩ := hrel
      by_cases hps : pos < DGL.size
      · have hps2 : pos < 38 := hps
        obtain ⟨g', rfl⟩ : ∃ g', gk = g' + 1 := ⟨gk - 1, by omega⟩
        have hda : ∀ p : Fin 38, (DGL[p.val]'p.isLt).toNat < 128 := by decide
        have hdec := decode_ascii DGL pos hps (hda ⟨pos, hps2⟩)
        have hnx : ∀ ty, (Instr.next (.pointer (some ⟨w.heap.size, 0, none⟩)) true ty).run Tryd.prog wr = _ := fun ty => Lib.run_next_any_at wr w.heap.size DGL pos ty hit hps
        obtain ⟨R, hR, hR2⟩ : ∃ R, R = (DGL[pos]'hps).toNat ∧ R < 128 := ⟨_, rfl, hda ⟨pos, hps2⟩⟩
        rw [hdec, ← hR] at hnx
        simp only at hnx
        have hit2 := Lib.iterAt_heap wr w.heap.size DGL pos (pos + 1) hit
        have hbw2 := Lib.below_iterAt hbw (k := w.heap.size) (Nat.le_refl _) DGL (pos + 1)
        obtain ⟨W, hWd⟩ : ∃ W, wr.iterAt w.heap.size DGL (pos + 1) = W := ⟨_, rfl⟩
        rw [hWd] at hnx hit2 hbw2
        have hRn : ¬ ((R : Int) = 65533) := by omega
        clear hdec hda hR hWd
        go_wp2_with fail
        go_roundg g'
        case measure => omega
        case rel => exact ⟨pos + 1, hit2, hbw2, by omega⟩
      · have hnx : ∀ ty, (Instr.next (.pointer (some ⟨w.heap.size, 0, none⟩)) true ty).run Tryd.prog wr = _ := fun ty => Lib.run_next_end_at wr w.heap.size DGL pos ty hit hps
        go_wp2_with fail
        go_ret
        exact ⟨rfl, hbw⟩
  · have he1 : ¬ ((r : Int) = 65533) := by omega
    go_enter Tryd.func51, Tryd.ntmps51
    go_wp2_with (go_at_call 62; refine (Tryd.utf8_ValidRune _ _).mono ?_; rintro e w' ⟨rfl, rfl⟩)
    · go_ret
      exact ⟨rfl, Below.refl _ _⟩
    · obtain ⟨E, hE⟩ : ∃ E, E = Utf8.encode (r : Int) := ⟨_, rfl⟩
      obtain ⟨k, hk1, hk3, hks, hkl⟩ := enc_lastL r h E hE
      have hkE : k < E.size := by omega
      have hlast := hkl hkE
      refine wp_scope_straight ?_
      go_wp2_with fail
      rw [← hE, show wrap64 ((E.size : Int) - 1) = (k : Int) by rw [hks]; unfold wrap64; omega]
      have HE := Lib.hid hE
      clear hE hkl
      go_loopw [9] (fun v wr => v = .int .i64 (k : Int) ∧ Below w'.heap.size w' wr) (fun _ _ => 0)
      case atStart => exact ⟨rfl, Below.refl _ _⟩
      case round =>
        obtain ⟨rfl, hB⟩ := hrel
        have HB := Lib.hid hB
        clear hB
        have hk16 : k < DGL.size := by show k < 38; omega
        have hk17 : (k : Int) < (DGL.size : Int) := by omega
        have hd : (DGL[k]'hk16).toNat < 128 := by
          have hda : ∀ p : Fin 38, (DGL[p.val]'p.isLt).toNat < 128 := by decide
          exact hda ⟨k, hk16⟩
        have hne : ¬ (((DGL[k]'hk16).toNat : Int) = ((E[k]'hkE).toNat : Int)) := by omega
        have hkE2 : (k : Int) < (E.size : Int) := by omega
        have hk18 : (k : Int) + 1 ≤ (DGL.size : Int) := by omega
        have HW := Lib.hid (show IntKind.i64.wrap ((k : Int) + 1) = ((k + 1 : Nat) : Int) by rw [i64_w]; unfold wrap64; omega)
        clear hks
        go_wp2_with fail
        refine wp_scope_straight ?_
        go_upto_region 6 with (fail)
        refine start_ (S := fun _ => True) (ds := []) (n := 7) #[false, false, false, false, false, false, false] rfl rfl rfl ?hS0 (fun hHeld => ?hrun)
        case hS0 => trivial
        case hrun =>
          refine pure_ (i := 0) (N := some 27) (v := ?_) (a' := ?_) #[true, false, false, false, false, false, false] rfl rfl (by kernel_rfl) (fun _ _ _ h => h) (Or.inl ⟨by rfl, ?_⟩) ?_ ?_
          rotate_left
          · intro w'
            go_simp
            first | done | with_reducible rfl
          rotate_left
          · simp only [Act.put, List.setIfInBounds_toArray, List.set_cons_zero, List.set_cons_succ, i64_w, i32_w]
            rfl
          refine pure_ (i := 1) (N := some 28) (v := ?_) (a' := ?_) #[true, true, false, false, false, false, false] rfl rfl (by kernel_rfl) (fun _ _ _ h => h) (Or.inl ⟨by rfl, ?_⟩) ?_ ?_
          rotate_left
          · intro w'
            go_simp
            first | done | with_reducible rfl
          rotate_left
          · simp only [Act.put, List.setIfInBounds_toArray, List.set_cons_zero, List.set_cons_succ, i64_w, i32_w]
            rfl
          refine pure_ (i := 2) (N := some 29) (v := ?_) (a' := ?_) #[true, true, true, false, false, false, false] rfl rfl (by kernel_rfl) (fun _ _ _ h => h) (Or.inl ⟨by rfl, ?_⟩) ?_ ?_
          rotate_left
          · intro w'
            go_simp
            first | done | with_reducible rfl
          rotate_left
          · simp only [Act.put, List.setIfInBounds_toArray, List.set_cons_zero, List.set_cons_succ, i64_w, i32_w]
            rfl
          refine pure_ (i := 3) (N := some 30) (v := ?_) (a' := ?_) #[true, true, true, true, false, false, false] rfl rfl (by kernel_rfl) (fun _ _ _ h => h) (Or.inl ⟨by rfl, ?_⟩) ?_ ?_
          rotate_left
          · intro w'
            go_simp
            first | done | with_reducible rfl
          rotate_left
          · simp only [Act.put, List.setIfInBounds_toArray, List.set_cons_zero, List.set_cons_succ, i64_w, i32_w]
            rfl
          refine pure_ (i := 4) (N := some 31) (v := ?_) (a' := ?_) #[true, true, true, true, true, false, false] rfl rfl (by kernel_rfl) (fun _ _ _ h => h) (Or.inl ⟨by rfl, ?_⟩) ?_ ?_
          rotate_left
          · intro w'
            go_simp
            first | done | with_reducible rfl
          rotate_left
          · simp only [Act.put, List.setIfInBounds_toArray, List.set_cons_zero, List.set_cons_succ, i64_w, i32_w]
            rfl
          refine pure_ (i := 5) (N := some 32) (v := ?_) (a' := ?_) #[true, true, true, true, true, true, false] rfl rfl (by kernel_rfl) (fun _ _ _ h => h) (Or.inl ⟨by rfl, ?_⟩) ?_ ?_
          rotate_left
          · intro w'
            go_simp
            first | done | with_reducible rfl
          rotate_left
          · simp only [Act.put, List.setIfInBounds_toArray, List.set_cons_zero, List.set_cons_succ, i64_w, i32_w]
            rfl
          refine pure_ (i := 6) (N := some 33) (v := ?_) (a' := ?_) #[true, true, true, true, true, true, true] rfl rfl (by kernel_rfl) (fun _ _ _ h => h) (Or.inl ⟨by rfl, ?_⟩) ?_ ?_
          rotate_left
          · intro w'
            go_simp
            first | done | with_reducible rfl
          rotate_left
          · simp only [Act.put, List.setIfInBounds_toArray, List.set_cons_zero, List.set_cons_succ, i64_w, i32_w]
            rfl
          refine tail_list 7 (t := []) (fuel := 0) rfl rfl rfl (by kernel_rfl) (by decide) ?_
          go_upto_region 7 with (fail)
          refine start_ (S := fun _ => True) (ds := [8]) (n := 9) #[false, false, false, false, false, false, false, false, false] rfl rfl rfl ?hS0 (fun hHeld => ?hrun)
          case hS0 => trivial
          case hrun =>
            refine pure_ (i := 0) (N := some 34) (v := ?_) (a' := ?_) #[true, false, false, false, false, false, false, false, false] rfl rfl (by kernel_rfl) (fun _ _ _ h => h) (Or.inl ⟨by rfl, ?_⟩) ?_ ?_
            rotate_left
            · intro w'
              go_simp
              first | done | with_reducible rfl
            rotate_left
            · simp only [Act.put, List.setIfInBounds_toArray, List.set_cons_zero, List.set_cons_succ, i64_w, i32_w]
              rfl
            refine pure_ (i := 1) (N := some 35) (v := ?_) (a' := ?_) #[true, true, false, false, false, false, false, false, false] rfl rfl (by kernel_rfl) (fun _ _ _ h => h) (Or.inl ⟨by rfl, ?_⟩) ?_ ?_
            rotate_left
            · intro w'
              go_simp
              first | done | with_reducible rfl
            rotate_left
            · simp only [Act.put, List.setIfInBounds_toArray, List.set_cons_zero, List.set_cons_succ, i64_w, i32_w]
              rfl
            refine pure_ (i := 2) (N := some 36) (v := ?_) (a' := ?_) #[true, true, true, false, false, false, false, false, false] rfl rfl (by kernel_rfl) (fun _ _ _ h => h) (Or.inl ⟨by rfl, ?_⟩) ?_ ?_
            rotate_left
            · intro w'
              go_simp; rw [HW.out]
              first | done | with_reducible rfl
            rotate_left
            · simp only [Act.put, List.setIfInBounds_toArray, List.set_cons_zero, List.set_cons_succ, i64_w, i32_w]
              rfl
            refine pure_ (i := 3) (N := some 37) (v := ?_) (a' := ?_) #[true, true, true, true, false, false, false, false, false] rfl rfl (by kernel_rfl) (fun _ _ _ h => h) (Or.inl ⟨by rfl, ?_⟩) ?_ ?_
            rotate_left
            · intro w'
              go_simp; rw [if_pos (by omega)]
              first | done | with_reducible rfl
            rotate_left
            · simp only [Act.put, List.setIfInBounds_toArray, List.set_cons_zero, List.set_cons_succ, i64_w, i32_w]
              rfl
            refine pure_ (i := 4) (N := some 38) (v := ?_) (a' := ?_) #[true, true, true, true, true, false, false, false, false] rfl rfl (by kernel_rfl) (fun _ _ _ h => h) (Or.inl ⟨by rfl, ?_⟩) ?_ ?_
            rotate_left
            · intro w'
              go_simp
              first | done | with_reducible rfl
            rotate_left
            · simp only [Act.put, List.setIfInBounds_toArray, List.set_cons_zero, List.set_cons_succ, i64_w, i32_w]
              rfl
            refine pure_ (i := 5) (N := some 39) (v := ?_) (a' := ?_) #[true, true, true, true, true, true, false, false, false] rfl rfl (by kernel_rfl) (fun _ _ _ h => h) (Or.inl ⟨by rfl, ?_⟩) ?_ ?_
            rotate_left
            · intro w'
              go_simp
              first | done | with_reducible rfl
            rotate_left
            · simp only [Act.put, List.setIfInBounds_toArray, List.set_cons_zero, List.set_cons_succ, i64_w, i32_w]
              rfl
            refine pure_ (i := 6) (N := some 40) (v := ?_) (a' := ?_) #[true, true, true, true, true, true, true, false, false] rfl rfl (by kernel_rfl) (fun _ _ _ h => h) (Or.inl ⟨by rfl, ?_⟩) ?_ ?_
            rotate_left
            · intro w'
              go_simp
              first | done | with_reducible rfl
            rotate_left
            · simp only [Act.put, List.setIfInBounds_toArray, List.set_cons_zero, List.set_cons_succ, i64_w, i32_w]
              rfl
            refine one_ (i := 7) (N := some 41) #[true, true, true, true, true, true, true, true, false] rfl rfl (by kernel_rfl) (by decide) (fun K hK => ?_)
            refine goes_ Tryd.func61 (by kernel_rfl) rfl #[.string (DGL.extract (k + 1) DGL.size), .int .u8 ((E[k]'hkE).toNat : Int)] (by rfl) rfl rfl (by (try simp only [List.map_toArray, List.map_cons, List.map_nil]); first | done | rfl) ?_
            refine (Tryd.strings_IndexByte _ _ _).mono ?_
            rintro e w2 ⟨rfl, rfl⟩
            rw [indexByte_notL]
            rotate_left
            · intro b hb e
              have h1 := dg_extractL k hk3 b hb
              rw [e] at h1
              have h3 := (E[k]'hkE).toNat_lt
              simp at h1
              omega
            refine ⟨_, rfl, ?_⟩
            refine hK.out _ _ trivial (fun hHeld1 => ?_)
            clear hK K
            refine norm_ (a' := ?_) ?_ ?_
            rotate_left
            · show Act.put _ (some 41) _ = _
              simp only [Act.put, List.setIfInBounds_toArray, List.set_cons_zero, List.set_cons_succ, i64_w, i32_w]
              rfl
            refine tail_list 8 (t := [8]) (fuel := 0) rfl rfl rfl (by kernel_rfl) (by decide) ?_
            go_wp2_with fail
            rw [Exit.noGoto_ret]
            go_wp2_with fail
            try rw [Exit.noGoto_ret]
            go_ret
            exact ⟨rfl, HB.out.drew.drew⟩
end Go.Proofs.YtijfedahhgcfpaaDoor
/- Is a text a name of a file? -/
set_option linter.unusedVariables false
set_option linter.unusedSimpArgs false
namespace Go.Proofs.YtijfedahhgcfpaaDoor
open Go.RowKit Go.Proofs.YtijfedahhgcfpaaDoorW.PrintWords Go.Proofs.YtijfedahhgcfpaaDoorW.PrintLast

def letN (x : Nat) : Bool := decide ((48 ≤ x ∧ x ≤ 57) ∨ (97 ≤ x ∧ x ≤ 122) ∨ x = 45 ∨ x = 46)
def rightN (s : ByteArray) : Bool := decide (0 < s.size ∧ s.size ≤ 70) && s.data.toList.all fun b => letN b.toNat

set_option maxRecDepth 1000000 in
theorem letN_digits (x : Nat) (h : x < 128) : decide (0 ≤ Lib.indexByte DGL.data.toList ((x : Int)).toNat.toUInt8) = letN x := by
  have : ∀ x : Fin 128, decide (0 ≤ Lib.indexByte DGL.data.toList ((x.val : Int)).toNat.toUInt8) = letN x.val := by decide
  exact this ⟨x, h⟩
theorem letN_hi (x : Nat) (h : 128 ≤ x) : letN x = false := by
  unfold letN
  exact decide_eq_false (by omega)
theorem contains_anyL (x : Nat) (hx : x ≤ 1114111) (w : World) :
    Calls Tryd.prog 35 #[.string DGL, .int .i32 x] w fun e w' => e = .returned (.bool (letN x)) ∧ Below w.heap.size w w' := by
  by_cases h : x < 128
  · refine (Tryd.strings_ContainsRune_ascii DGL x w (by omega) (by omega)).mono ?_
    rintro e w' ⟨rfl, rfl⟩
    rw [letN_digits x h]
    exact ⟨rfl, Below.refl _ _⟩
  · rw [letN_hi x (by omega)]
    go_enter Tryd.func35, Tryd.ntmps35
    go_wp2_with fail
    refine (indexRune_hiL x (by omega) hx w).mono ?_
    rintro e w' ⟨rfl, hB⟩
    have HB := Lib.hid hB
    clear hB
    go_wp2_with fail
    go_ret
    exact ⟨rfl, HB.out⟩
theorem decode_hiL (s : ByteArray) (pos : Nat) (h : pos < s.size) (hb : 128 ≤ (s[pos]'h).toNat) : 128 ≤ (Utf8.decode s pos).1 := by
  have e : s.get! (pos + 0) = s[pos]'h := by
    show s.get! pos = _
    simp [ByteArray.get!, getElem!_pos, h]
    rfl
  unfold Utf8.decode
  have he : 128 ≤ Utf8.runeError := err_hiL
  simp only [e]
  rw [if_neg (by omega)]
  split
  · split
    · simp only; omega
    · exact he
  · split
    · split
      · rename_i h1
        simp only [Bool.and_eq_true, decide_eq_true_eq] at h1
        simp only; omega
      · exact he
    · split
      · split
        · rename_i h1
          simp only [Bool.and_eq_true, decide_eq_true_eq] at h1
          simp only; omega
        · exact he
      · exact he
theorem idx_badL (s : ByteArray) : ∀ (f pos : Nat), s.size ≤ pos + f → (decide (0 ≤ Lib.idxFuncFrom (fun x => !letN x) true s f pos)) = !((s.data.toList.drop pos).all fun b => letN b.toNat)
  | 0, pos, h => by
    rw [List.drop_eq_nil_of_le (by simpa using h)]
    rfl
  | f + 1, pos, h => by
    by_cases hp : pos < s.size
    · have hd : s.data.toList.drop pos = (s[pos]'hp) :: s.data.toList.drop (pos + 1) := by
        rw [List.drop_eq_getElem_cons (by simpa using hp)]
        rfl
      rw [hd, List.all_cons, Lib.idxFuncFrom, if_pos hp]
      by_cases ha : (s[pos]'hp).toNat < 128
      · rw [decode_ascii s pos hp ha]
        simp only
        cases hx : letN (s[pos]'hp).toNat
        · rw [Bool.not_false, if_pos rfl]
          simp
        · rw [Bool.not_true, if_neg (by decide), Bool.true_and]
          exact idx_badL s f (pos + 1) (by omega)
      · have h1 := decode_hiL s pos hp (by omega)
        rw [letN_hi _ h1, letN_hi _ (by omega : 128 ≤ (s[pos]'hp).toNat), Bool.not_false, if_pos rfl]
        simp
    · rw [List.drop_eq_nil_of_le (by simpa using hp), Lib.idxFuncFrom_end _ _ _ _ _ hp]
      rfl

end Go.Proofs.YtijfedahhgcfpaaDoor
