/- Walks of chapter 04: Within, Apart, Moved, Parent, of the program and of the reference. -/
import Derived.Test.YtijfedahhgcfpaaDoorNa
import Derived.Test.YtijfedahhgcfpaaDoorProg
import Derived.Test.YtijfedahhgcfpaaDoorShelf
import Derived.WalkKit
import Derived.WalkSpells
import Derived.WalkLawsBesides
import Derived.Below
import Derived.Lib.Hide
import Derived.Test.YtijfedahhgcfpaaDoorRegion
import Derived.Scope
set_option linter.unusedVariables false
set_option linter.unusedSimpArgs false
namespace Go.Proofs.YtijfedahhgcfpaaDoor
open Go.RowKit

theorem within_no (p q : ByteArray) (h : Lib.hasPrefix (bl p) (bl q) = false) : withinB (bl p) (bl q) = false := by
  unfold withinB
  rw [show (bl q).isPrefixOf (bl p) = false from h]
  rfl
theorem within_yes (p q : ByteArray) (h : Lib.hasPrefix (bl p) (bl q) = true) : withinB (bl p) (bl q) = (decide ((bl p).drop (bl q).length = []) || decide (((bl p).drop (bl q).length)[0]? = some 47)) := by
  have h1 : (bl q).isPrefixOf (bl p) = true := h
  obtain ⟨t, ht⟩ := List.isPrefixOf_iff_prefix.1 h1
  rw [withinB_eq, decide_eq_true (by rw [← ht]; simp), decide_eq_true (by rw [← ht]; simp)]
  rfl

theorem beq47 (b : UInt8) : (((b.toNat : Nat) : Int) == 47) = decide (b = 47) := by
  rw [Bool.eq_iff_iff, beq_iff_eq, decide_eq_true_eq]
  constructor
  · intro h
    exact UInt8.toNat_inj.1 (by show b.toNat = 47; omega)
  · rintro rfl
    rfl
set_option maxRecDepth 100000 in
set_option maxHeartbeats 2000000 in
theorem pwithin (p q : ByteArray) (w : World) :
    Calls Tryd.prog 46 #[.string p, .string q] w fun e w' => e = .returned (.bool (withinB (bl p) (bl q))) ∧ Below w.heap.size w w' := by
  obtain ⟨r, hr⟩ : ∃ r, r = withinB (bl p) (bl q) := ⟨_, rfl⟩
  rw [← hr]
  have HR := Lib.hid hr
  clear hr
  go_enter Tryd.func46, Tryd.ntmps46
  go_wp2_with fail
  refine (Tryd.strings_CutPrefix p q w).mono ?_
  rintro e w' ⟨rfl, rfl⟩
  cases h : Lib.hasPrefix p.data.toList q.data.toList with
  | false =>
    have hr := HR.out.trans (within_no p q h)
    subst hr
    clear h HR
    go_wp2_with fail
    go_ret
    exact ⟨rfl, Below.refl _ _⟩
  | true =>
    have hr := HR.out.trans (within_yes p q h)
    have ht : Lib.trimPrefix p.data.toList q.data.toList = (bl p).drop (bl q).length := by unfold Lib.trimPrefix; rw [if_pos h]; rfl
    rw [ht]
    clear h ht HR
    obtain ⟨L, hL⟩ : ∃ L, L = (bl p).drop (bl q).length := ⟨_, rfl⟩
    rw [← hL] at hr ⊢
    clear hL
    have HR := Lib.hid hr
    clear hr
    cases L with
    | nil =>
      go_wp2_with fail
      go_ret
      exact ⟨by rw [HR.out]; simp, Below.refl _ _⟩
    | cons b L =>
      go_wp2_with fail
      all_goals go_ret
      all_goals
        refine ⟨?_, Below.refl _ _⟩
        rw [HR.out]
        simp
        exact beq47 b
theorem papart (p q : ByteArray) (w : World) :
    Calls Tryd.prog 31 #[.string p, .string q] w fun e w' => e = .returned (.bool (!withinB (bl p) (bl q) && !withinB (bl q) (bl p))) ∧ Below w.heap.size w w' := by
  obtain ⟨r, hr⟩ : ∃ r, r = withinB (bl p) (bl q) := ⟨_, rfl⟩
  obtain ⟨s, hs⟩ : ∃ s, s = withinB (bl q) (bl p) := ⟨_, rfl⟩
  have HP := Lib.hid (pwithin p q)
  have HQ := Lib.hid (pwithin q p)
  rw [← hr] at HP ⊢
  rw [← hs] at HQ ⊢
  clear hr hs
  go_enter Tryd.func31, Tryd.ntmps31
  go_wp2_with fail
  refine (HP.out w).mono ?_
  rintro e w1 ⟨rfl, hB⟩
  have HB := Lib.hid hB
  clear hB
  cases r with
  | true =>
    go_wp2_with fail
    go_ret
    exact ⟨rfl, HB.out⟩
  | false =>
    go_wp2_with fail
    refine (HQ.out w1).mono ?_
    rintro e w2 ⟨rfl, hB⟩
    have HB2 := Lib.hid (hB.mono HB.out.size)
    clear hB
    go_wp2_with fail
    go_ret
    exact ⟨by simp, HB.out.trans HB2.out⟩
end Go.Proofs.YtijfedahhgcfpaaDoor
/- strings.IndexRune of the 39 letters of a part, at any rune. -/
set_option linter.unusedVariables false
set_option linter.unusedSimpArgs false
namespace Go.Proofs.YtijfedahhgcfpaaDoor
open Go.RowKit Go.Proofs.YtijfedahhgcfpaaDoorW.PrintWords Go.Proofs.YtijfedahhgcfpaaDoorW.PrintLast

def DG : ByteArray := ⟨#[97, 98, 99, 100, 101, 102, 103, 104, 105, 106, 107, 108, 109, 110, 111, 112, 113, 114, 115, 116, 117, 118, 119, 120, 121, 122, 48, 49, 50, 51, 52, 53, 54, 55, 56, 57, 46, 95, 45]⟩

def encOf (c : Nat) : ByteArray :=
  if c < 128 then ⟨#[UInt8.ofNat c]⟩
  else if c < 2048 then ⟨#[UInt8.ofNat (192 + c / 64), UInt8.ofNat (128 + c % 64)]⟩
  else if c < 65536 then ⟨#[UInt8.ofNat (224 + c / 4096), UInt8.ofNat (128 + c / 64 % 64), UInt8.ofNat (128 + c % 64)]⟩
  else ⟨#[UInt8.ofNat (240 + c / 262144), UInt8.ofNat (128 + c / 4096 % 64), UInt8.ofNat (128 + c / 64 % 64), UInt8.ofNat (128 + c % 64)]⟩
theorem encode_of (r : Int) : Utf8.encode r = encOf (if Utf8.valid r = true then r.toNat else Utf8.runeError) := rfl
theorem last_hi (n : Nat) : 128 ≤ (UInt8.ofNat (128 + n % 64)).toNat := by
  rw [UInt8.toNat_ofNat']
  have : n % 64 < 64 := Nat.mod_lt _ (by decide)
  omega
theorem encOf_last (c : Nat) (h : 128 ≤ c) : ∃ k, 1 ≤ k ∧ k ≤ 3 ∧ (encOf c).size = k + 1 ∧ ∀ hk : k < (encOf c).size, 128 ≤ ((encOf c)[k]'hk).toNat := by
  have e : encOf c = ⟨#[UInt8.ofNat (192 + c / 64), UInt8.ofNat (128 + c % 64)]⟩ ∨ encOf c = ⟨#[UInt8.ofNat (224 + c / 4096), UInt8.ofNat (128 + c / 64 % 64), UInt8.ofNat (128 + c % 64)]⟩ ∨ encOf c = ⟨#[UInt8.ofNat (240 + c / 262144), UInt8.ofNat (128 + c / 4096 % 64), UInt8.ofNat (128 + c / 64 % 64), UInt8.ofNat (128 + c % 64)]⟩ := by
    unfold encOf
    rw [if_neg (by omega)]
    by_cases h1 : c < 2048
    · rw [if_pos h1]; exact Or.inl rfl
    · rw [if_neg h1]
      by_cases h3 : c < 65536
      · rw [if_pos h3]; exact Or.inr (Or.inl rfl)
      · rw [if_neg h3]; exact Or.inr (Or.inr rfl)
  rcases e with e | e | e <;> rw [e]
  · exact ⟨1, by decide, by decide, rfl, fun _ => last_hi c⟩
  · exact ⟨2, by decide, by decide, rfl, fun _ => last_hi c⟩
  · exact ⟨3, by decide, by decide, rfl, fun _ => last_hi c⟩
theorem err_hi : 128 ≤ Utf8.runeError := by
  unfold Utf8.runeError
  omega
theorem enc_last (r : Nat) (h : 128 ≤ r) (E : ByteArray) (hE : E = Utf8.encode (r : Int)) : ∃ k, 1 ≤ k ∧ k ≤ 3 ∧ E.size = k + 1 ∧ ∀ hk : k < E.size, 128 ≤ (E[k]'hk).toNat := by
  have h1 := encode_of (r : Int)
  rw [← hE] at h1
  have h2 : ∃ c, E = encOf c ∧ 128 ≤ c := by
    by_cases hv : Utf8.valid (r : Int) = true
    · rw [if_pos hv, Int.toNat_natCast] at h1
      exact ⟨r, h1, h⟩
    · rw [if_neg hv] at h1
      exact ⟨_, h1, err_hi⟩
  obtain ⟨c, rfl, hc⟩ := h2
  exact encOf_last c hc
theorem indexByte_not (l : List UInt8) (c : UInt8) (h : ∀ b ∈ l, b ≠ c) : Lib.indexByte l c = -1 := by
  induction l with
  | nil => rfl
  | cons b l ih =>
    rw [Lib.indexByte, ih (fun x hx => h x (List.mem_cons_of_mem _ hx)), if_neg (by simpa using h b List.mem_cons_self)]
    rfl

set_option maxRecDepth 1000000 in
theorem dg_extract (k : Nat) (h : k ≤ 3) : ∀ b ∈ (DG.extract (k + 1) DG.size).data.toList, b.toNat < 128 := by
  have : ∀ k : Fin 4, ∀ b ∈ (DG.extract (k.val + 1) DG.size).data.toList, b.toNat < 128 := by decide
  exact this ⟨k, by omega⟩

set_option maxRecDepth 1000000 in
set_option maxHeartbeats 4000000 in
theorem indexRune_hi (r : Nat) (h : 128 ≤ r) (h2 : r ≤ 1114111) (w : World) :
    Calls Tryd.prog 51 #[.string DG, .int .i32 r] w fun e w' => e = .returned (.int .i64 (-1)) ∧ Below w.heap.size w w' := by
  have h128 : ¬ ((r : Int) < 128) := by omega
  have h0 : (0 : Int) ≤ r := by omega
  by_cases he : r = 65533
  · subst he
    go_enter Tryd.func51, Tryd.ntmps51
    go_wp2_with fail
    go_loopg [] 39 (fun gf wx => ∃ pos : Nat, wx.heap[w.heap.size]? = some (.stringIter DG pos) ∧ Below w.heap.size w wx ∧ pos + gf = 39)
    case atStart => exact ⟨0, World.iter_heap w DG 0, (Below.refl _ w).alloc (Nat.le_refl _) _, rfl⟩
    case round =>
      obtain ⟨pos, hit, hbw, hfu⟩ := hrel
      by_cases hps : pos < DG.size
      · have hps2 : pos < 39 := hps
        obtain ⟨g', rfl⟩ : ∃ g', gk = g' + 1 := ⟨gk - 1, by omega⟩
        have hda : ∀ p : Fin 39, (DG[p.val]'p.isLt).toNat < 128 := by decide
        have hdec := decode_ascii DG pos hps (hda ⟨pos, hps2⟩)
        have hnx : ∀ ty, (Instr.next (.pointer (some ⟨w.heap.size, 0, none⟩)) true ty).run Tryd.prog wr = _ := fun ty => Lib.run_next_any_at wr w.heap.size DG pos ty hit hps
        obtain ⟨R, hR, hR2⟩ : ∃ R, R = (DG[pos]'hps).toNat ∧ R < 128 := ⟨_, rfl, hda ⟨pos, hps2⟩⟩
        rw [hdec, ← hR] at hnx
        simp only at hnx
        have hit2 := Lib.iterAt_heap wr w.heap.size DG pos (pos + 1) hit
        have hbw2 := Lib.below_iterAt hbw (k := w.heap.size) (Nat.le_refl _) DG (pos + 1)
        obtain ⟨W, hWd⟩ : ∃ W, wr.iterAt w.heap.size DG (pos + 1) = W := ⟨_, rfl⟩
        rw [hWd] at hnx hit2 hbw2
        have hRn : ¬ ((R : Int) = 65533) := by omega
        clear hdec hda hR hWd
        go_wp2_with fail
        go_roundg g'
        case measure => omega
        case rel => exact ⟨pos + 1, hit2, hbw2, by omega⟩
      · have hnx : ∀ ty, (Instr.next (.pointer (some ⟨w.heap.size, 0, none⟩)) true ty).run Tryd.prog wr = _ := fun ty => Lib.run_next_end_at wr w.heap.size DG pos ty hit hps
        go_wp2_with fail
        go_ret
        exact ⟨rfl, hbw⟩
  · have he1 : ¬ ((r : Int) = 65533) := by omega
    go_enter Tryd.func51, Tryd.ntmps51
    go_wp2_with (go_at_call 62; refine (Tryd.utf8_ValidRune _ _).mono ?_; rintro e w' ⟨rfl, rfl⟩)
    · go_ret
      exact ⟨rfl, Below.refl _ _⟩
    · obtain ⟨E, hE⟩ : ∃ E, E = Utf8.encode (r : Int) := ⟨_, rfl⟩
      obtain ⟨k, hk1, hk3, hks, hkl⟩ := enc_last r h E hE
      have hkE : k < E.size := by omega
      have hlast := hkl hkE
      refine wp_scope_straight ?_
      go_wp2_with fail
      rw [← hE, show wrap64 ((E.size : Int) - 1) = (k : Int) by rw [hks]; unfold wrap64; omega]
      have HE := Lib.hid hE
      clear hE hkl
      go_loopw [9] (fun v wr => v = .int .i64 (k : Int) ∧ Below w'.heap.size w' wr) (fun _ _ => 0)
      case atStart => exact ⟨rfl, Below.refl _ _⟩
      case round =>
        obtain ⟨rfl, hB⟩ := hrel
        have HB := Lib.hid hB
        clear hB
        have hk16 : k < DG.size := by show k < 39; omega
        have hk17 : (k : Int) < (DG.size : Int) := by omega
        have hd : (DG[k]'hk16).toNat < 128 := by
          have hda : ∀ p : Fin 39, (DG[p.val]'p.isLt).toNat < 128 := by decide
          exact hda ⟨k, hk16⟩
        have hne : ¬ (((DG[k]'hk16).toNat : Int) = ((E[k]'hkE).toNat : Int)) := by omega
        have hkE2 : (k : Int) < (E.size : Int) := by omega
        have hk18 : (k : Int) + 1 ≤ (DG.size : Int) := by omega
        have HW := Lib.hid (show IntKind.i64.wrap ((k : Int) + 1) = ((k + 1 : Nat) : Int) by rw [i64_w]; unfold wrap64; omega)
        clear hks
        go_wp2_with fail
        refine wp_scope_straight ?_
        go_upto_region 6 with (fail)
        refine start_ (S := fun _ => True) (ds := []) (n := 7) #[false, false, false, false, false, false, false] rfl rfl rfl ?hS0 (fun hHeld => ?hrun)
        case hS0 => trivial
        case hrun =>
          refine pure_ (i := 0) (N := some 27) (v := ?_) (a' := ?_) #[true, false, false, false, false, false, false] rfl rfl (by kernel_rfl) (fun _ _ _ h => h) (Or.inl ⟨by rfl, ?_⟩) ?_ ?_
          rotate_left
          · intro w'
            go_simp
            first | done | with_reducible rfl
          rotate_left
          · simp only [Act.put, List.setIfInBounds_toArray, List.set_cons_zero, List.set_cons_succ, i64_w, i32_w]
            rfl
          refine pure_ (i := 1) (N := some 28) (v := ?_) (a' := ?_) #[true, true, false, false, false, false, false] rfl rfl (by kernel_rfl) (fun _ _ _ h => h) (Or.inl ⟨by rfl, ?_⟩) ?_ ?_
          rotate_left
          · intro w'
            go_simp
            first | done | with_reducible rfl
          rotate_left
          · simp only [Act.put, List.setIfInBounds_toArray, List.set_cons_zero, List.set_cons_succ, i64_w, i32_w]
            rfl
          refine pure_ (i := 2) (N := some 29) (v := ?_) (a' := ?_) #[true, true, true, false, false, false, false] rfl rfl (by kernel_rfl) (fun _ _ _ h => h) (Or.inl ⟨by rfl, ?_⟩) ?_ ?_
          rotate_left
          · intro w'
            go_simp
            first | done | with_reducible rfl
          rotate_left
          · simp only [Act.put, List.setIfInBounds_toArray, List.set_cons_zero, List.set_cons_succ, i64_w, i32_w]
            rfl
          refine pure_ (i := 3) (N := some 30) (v := ?_) (a' := ?_) #[true, true, true, true, false, false, false] rfl rfl (by kernel_rfl) (fun _ _ _ h => h) (Or.inl ⟨by rfl, ?_⟩) ?_ ?_
          rotate_left
          · intro w'
            go_simp
            first | done | with_reducible rfl
          rotate_left
          · simp only [Act.put, List.setIfInBounds_toArray, List.set_cons_zero, List.set_cons_succ, i64_w, i32_w]
            rfl
          refine pure_ (i := 4) (N := some 31) (v := ?_) (a' := ?_) #[true, true, true, true, true, false, false] rfl rfl (by kernel_rfl) (fun _ _ _ h => h) (Or.inl ⟨by rfl, ?_⟩) ?_ ?_
          rotate_left
          · intro w'
            go_simp
            first | done | with_reducible rfl
          rotate_left
          · simp only [Act.put, List.setIfInBounds_toArray, List.set_cons_zero, List.set_cons_succ, i64_w, i32_w]
            rfl
          refine pure_ (i := 5) (N := some 32) (v := ?_) (a' := ?_) #[true, true, true, true, true, true, false] rfl rfl (by kernel_rfl) (fun _ _ _ h => h) (Or.inl ⟨by rfl, ?_⟩) ?_ ?_
          rotate_left
          · intro w'
            go_simp
            first | done | with_reducible rfl
          rotate_left
          · simp only [Act.put, List.setIfInBounds_toArray, List.set_cons_zero, List.set_cons_succ, i64_w, i32_w]
            rfl
          refine pure_ (i := 6) (N := some 33) (v := ?_) (a' := ?_) #[true, true, true, true, true, true, true] rfl rfl (by kernel_rfl) (fun _ _ _ h => h) (Or.inl ⟨by rfl, ?_⟩) ?_ ?_
          rotate_left
          · intro w'
            go_simp
            first | done | with_reducible rfl
          rotate_left
          · simp only [Act.put, List.setIfInBounds_toArray, List.set_cons_zero, List.set_cons_succ, i64_w, i32_w]
            rfl
          refine tail_list 7 (t := []) (fuel := 0) rfl rfl rfl (by kernel_rfl) (by decide) ?_
          go_upto_region 7 with (fail)
          refine start_ (S := fun _ => True) (ds := [8]) (n := 9) #[false, false, false, false, false, false, false, false, false] rfl rfl rfl ?hS0 (fun hHeld => ?hrun)
          case hS0 => trivial
          case hrun =>
            refine pure_ (i := 0) (N := some 34) (v := ?_) (a' := ?_) #[true, false, false, false, false, false, false, false, false] rfl rfl (by kernel_rfl) (fun _ _ _ h => h) (Or.inl ⟨by rfl, ?_⟩) ?_ ?_
            rotate_left
            · intro w'
              go_simp
              first | done | with_reducible rfl
            rotate_left
            · simp only [Act.put, List.setIfInBounds_toArray, List.set_cons_zero, List.set_cons_succ, i64_w, i32_w]
              rfl
            refine pure_ (i := 1) (N := some 35) (v := ?_) (a' := ?_) #[true, true, false, false, false, false, false, false, false] rfl rfl (by kernel_rfl) (fun _ _ _ h => h) (Or.inl ⟨by rfl, ?_⟩) ?_ ?_
            rotate_left
            · intro w'
              go_simp
              first | done | with_reducible rfl
            rotate_left
            · simp only [Act.put, List.setIfInBounds_toArray, List.set_cons_zero, List.set_cons_succ, i64_w, i32_w]
              rfl
            refine pure_ (i := 2) (N := some 36) (v := ?_) (a' := ?_) #[true, true, true, false, false, false, false, false, false] rfl rfl (by kernel_rfl) (fun _ _ _ h => h) (Or.inl ⟨by rfl, ?_⟩) ?_ ?_
            rotate_left
            · intro w'
              go_simp; rw [HW.out]
              first | done | with_reducible rfl
            rotate_left
            · simp only [Act.put, List.setIfInBounds_toArray, List.set_cons_zero, List.set_cons_succ, i64_w, i32_w]
              rfl
            refine pure_ (i := 3) (N := some 37) (v := ?_) (a' := ?_) #[true, true, true, true, false, false, false, false, false] rfl rfl (by kernel_rfl) (fun _ _ _ h => h) (Or.inl ⟨by rfl, ?_⟩) ?_ ?_
            rotate_left
            · intro w'
              go_simp; rw [if_pos (by omega)]
              first | done | with_reducible rfl
            rotate_left
            · simp only [Act.put, List.setIfInBounds_toArray, List.set_cons_zero, List.set_cons_succ, i64_w, i32_w]
              rfl
            refine pure_ (i := 4) (N := some 38) (v := ?_) (a' := ?_) #[true, true, true, true, true, false, false, false, false] rfl rfl (by kernel_rfl) (fun _ _ _ h => h) (Or.inl ⟨by rfl, ?_⟩) ?_ ?_
            rotate_left
            · intro w'
              go_simp
              first | done | with_reducible rfl
            rotate_left
            · simp only [Act.put, List.setIfInBounds_toArray, List.set_cons_zero, List.set_cons_succ, i64_w, i32_w]
              rfl
            refine pure_ (i := 5) (N := some 39) (v := ?_) (a' := ?_) #[true, true, true, true, true, true, false, false, false] rfl rfl (by kernel_rfl) (fun _ _ _ h => h) (Or.inl ⟨by rfl, ?_⟩) ?_ ?_
            rotate_left
            · intro w'
              go_simp
              first | done | with_reducible rfl
            rotate_left
            · simp only [Act.put, List.setIfInBounds_toArray, List.set_cons_zero, List.set_cons_succ, i64_w, i32_w]
              rfl
            refine pure_ (i := 6) (N := some 40) (v := ?_) (a' := ?_) #[true, true, true, true, true, true, true, false, false] rfl rfl (by kernel_rfl) (fun _ _ _ h => h) (Or.inl ⟨by rfl, ?_⟩) ?_ ?_
            rotate_left
            · intro w'
              go_simp
              first | done | with_reducible rfl
            rotate_left
            · simp only [Act.put, List.setIfInBounds_toArray, List.set_cons_zero, List.set_cons_succ, i64_w, i32_w]
              rfl
            refine one_ (i := 7) (N := some 41) #[true, true, true, true, true, true, true, true, false] rfl rfl (by kernel_rfl) (by decide) (fun K hK => ?_)
            refine goes_ Tryd.func61 (by kernel_rfl) rfl #[.string (DG.extract (k + 1) DG.size), .int .u8 ((E[k]'hkE).toNat : Int)] (by rfl) rfl rfl (by (try simp only [List.map_toArray, List.map_cons, List.map_nil]); first | done | rfl) ?_
            refine (Tryd.strings_IndexByte _ _ _).mono ?_
            rintro e w2 ⟨rfl, rfl⟩
            rw [indexByte_not]
            rotate_left
            · intro b hb e
              have h1 := dg_extract k hk3 b hb
              rw [e] at h1
              have h3 := (E[k]'hkE).toNat_lt
              simp at h1
              omega
            refine ⟨_, rfl, ?_⟩
            refine hK.out _ _ trivial (fun hHeld1 => ?_)
            clear hK K
            refine norm_ (a' := ?_) ?_ ?_
            rotate_left
            · show Act.put _ (some 41) _ = _
              simp only [Act.put, List.setIfInBounds_toArray, List.set_cons_zero, List.set_cons_succ, i64_w, i32_w]
              rfl
            refine tail_list 8 (t := [8]) (fuel := 0) rfl rfl rfl (by kernel_rfl) (by decide) ?_
            go_wp2_with fail
            rw [Exit.noGoto_ret]
            go_wp2_with fail
            try rw [Exit.noGoto_ret]
            go_ret
            exact ⟨rfl, HB.out.drew.drew⟩
end Go.Proofs.YtijfedahhgcfpaaDoor
/- A part of a path: the program's part. -/
set_option linter.unusedVariables false
set_option linter.unusedSimpArgs false
namespace Go.Proofs.YtijfedahhgcfpaaDoor
open Go.RowKit Go.Proofs.YtijfedahhgcfpaaDoorW.PrintWords Go.Proofs.YtijfedahhgcfpaaDoorW.PrintLast


set_option maxRecDepth 1000000 in
theorem letterN_digits (x : Nat) (h : x < 128) : decide (0 ≤ Lib.indexByte DG.data.toList ((x : Int)).toNat.toUInt8) = letterN x := by
  have : ∀ x : Fin 128, decide (0 ≤ Lib.indexByte DG.data.toList ((x.val : Int)).toNat.toUInt8) = letterN x.val := by decide
  exact this ⟨x, h⟩
theorem letterN_hi (x : Nat) (h : 128 ≤ x) : letterN x = false := by
  unfold letterN
  exact decide_eq_false (by omega)
theorem contains_any (x : Nat) (hx : x ≤ 1114111) (w : World) :
    Calls Tryd.prog 35 #[.string DG, .int .i32 x] w fun e w' => e = .returned (.bool (letterN x)) ∧ Below w.heap.size w w' := by
  by_cases h : x < 128
  · refine (Tryd.strings_ContainsRune_ascii DG x w (by omega) (by omega)).mono ?_
    rintro e w' ⟨rfl, rfl⟩
    rw [letterN_digits x h]
    exact ⟨rfl, Below.refl _ _⟩
  · rw [letterN_hi x (by omega)]
    go_enter Tryd.func35, Tryd.ntmps35
    go_wp2_with fail
    refine (indexRune_hi x (by omega) hx w).mono ?_
    rintro e w' ⟨rfl, hB⟩
    have HB := Lib.hid hB
    clear hB
    go_wp2_with fail
    go_ret
    exact ⟨rfl, HB.out⟩
theorem pred_any (x : Nat) (hx : x ≤ 1114111) (w : World) :
    Calls Tryd.prog 56 #[.int .i32 x] w fun e w' => e = .returned (.bool (!letterN x)) ∧ Below w.heap.size w w' := by
  go_enter Tryd.func56, Tryd.ntmps56
  go_wp2_with fail
  refine (contains_any x hx w).mono ?_
  rintro e w' ⟨rfl, hB⟩
  have HB := Lib.hid hB
  clear hB
  go_wp2_with fail
  go_ret
  exact ⟨rfl, HB.out⟩

theorem decode_hi (s : ByteArray) (pos : Nat) (h : pos < s.size) (hb : 128 ≤ (s[pos]'h).toNat) : 128 ≤ (Utf8.decode s pos).1 := by
  have e : s.get! (pos + 0) = s[pos]'h := by
    show s.get! pos = _
    simp [ByteArray.get!, getElem!_pos, h]
    rfl
  unfold Utf8.decode
  have he : 128 ≤ Utf8.runeError := err_hi
  simp only [e]
  rw [if_neg (by omega)]
  split
  · split
    · simp only; omega
    · exact he
  · split
    · split
      · rename_i h1
        simp only [Bool.and_eq_true, decide_eq_true_eq] at h1
        simp only; omega
      · exact he
    · split
      · split
        · rename_i h1
          simp only [Bool.and_eq_true, decide_eq_true_eq] at h1
          simp only; omega
        · exact he
      · exact he
theorem idx_bad (s : ByteArray) : ∀ (f pos : Nat), s.size ≤ pos + f → (decide (0 ≤ Lib.idxFuncFrom (fun x => !letterN x) true s f pos)) = !((s.data.toList.drop pos).all fun b => letterN b.toNat)
  | 0, pos, h => by
    rw [List.drop_eq_nil_of_le (by simpa using h)]
    rfl
  | f + 1, pos, h => by
    by_cases hp : pos < s.size
    · have hd : s.data.toList.drop pos = (s[pos]'hp) :: s.data.toList.drop (pos + 1) := by
        rw [List.drop_eq_getElem_cons (by simpa using hp)]
        rfl
      rw [hd, List.all_cons, Lib.idxFuncFrom, if_pos hp]
      by_cases ha : (s[pos]'hp).toNat < 128
      · rw [decode_ascii s pos hp ha]
        simp only
        cases hx : letterN (s[pos]'hp).toNat
        · rw [Bool.not_false, if_pos rfl]
          simp
        · rw [Bool.not_true, if_neg (by decide), Bool.true_and]
          exact idx_bad s f (pos + 1) (by omega)
      · have h1 := decode_hi s pos hp (by omega)
        rw [letterN_hi _ h1, letterN_hi _ (by omega : 128 ≤ (s[pos]'hp).toNat), Bool.not_false, if_pos rfl]
        simp
    · rw [List.drop_eq_nil_of_le (by simpa using hp), Lib.idxFuncFrom_end _ _ _ _ _ hp]
      rfl


theorem partOk_eq (l : List UInt8) : partOk 16 l = (!l.isEmpty && decide ((l.length : Int) ≤ 16) && !(l == [46]) && !(l == [46, 46]) && l.all fun b => letterN b.toNat) := by
  unfold partOk
  have e1 : decide (1 ≤ l.length) = !l.isEmpty := by cases l <;> simp
  have e2 : decide (l.length ≤ 16) = decide ((l.length : Int) ≤ 16) := by rw [decide_eq_decide]; omega
  have e3 : ∀ m : List UInt8, decide (l ≠ m) = !(l == m) := by intro m; rw [Bool.eq_iff_iff]; simp
  rw [e1, e2, e3, e3]
theorem ppart (s : ByteArray) (w : World) :
    Calls Tryd.prog 44 #[.string s] w fun e w' => e = .returned (.bool (partOk 16 (bl s))) ∧ Below w.heap.size w w' := by
  have eg : ∀ args w, (callFunc 56 args).run Tryd.prog w = .ok (.enter 56 args) w := enters_of Tryd.func56 (by kernel_rfl) rfl
  have hp : PredGrows Tryd.prog 56 #[] (fun x => !letterN x) w := fun W x hx _ => pred_any x hx W
  have hc := Tryd.strings_ContainsFunc_grows 56 #[] eg (fun x => !letterN x) s w hp
  have hi : decide (0 ≤ Lib.idxFunc (fun x => !letterN x) true s) = !((bl s).all fun b => letterN b.toNat) := by
    have := idx_bad s s.size 0 (by omega)
    rw [List.drop_zero] at this
    exact this
  rw [hi] at hc
  obtain ⟨q, hq⟩ : ∃ q, q = (bl s).all fun b => letterN b.toNat := ⟨_, rfl⟩
  obtain ⟨r, hr⟩ : ∃ r, r = partOk 16 (bl s) := ⟨_, rfl⟩
  have e : r = (!s.toList.isEmpty && decide ((s.size : Int) ≤ 16) && !(s.toList == [46]) && !(s.toList == [46, 46]) && q) := by
    have hl : s.toList = bl s := ByteArray.toList_eq s
    rw [hr, hq, hl]
    exact partOk_eq (bl s)
  rw [← hr]
  rw [← hq] at hc
  have HC := Lib.hid hc
  have HE := Lib.hid e
  clear hc hi hp eg hq e hr
  go_enter Tryd.func44, Tryd.ntmps44
  go_wp2_with fail
  refine HC.out.mono ?_
  rintro e w' ⟨rfl, hB⟩
  have HB := Lib.hid hB
  clear hB
  go_wp2_with fail
  all_goals go_ret
  all_goals
    refine ⟨?_, HB.out⟩
    rw [HE.out]
    show Ending.returned (Value.bool _) = Ending.returned (Value.bool _)
    congr 2
    first | (simp_all; done) | (simp_all; intros; omega)
end Go.Proofs.YtijfedahhgcfpaaDoor
