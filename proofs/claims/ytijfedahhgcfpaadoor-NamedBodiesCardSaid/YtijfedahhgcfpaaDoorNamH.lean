/- Patches' bytes: texts and lists are written. -/
import Derived.Test.YtijfedahhgcfpaaDoorNamG
import Derived.Test.YtijfedahhgcfpaaDoorNh
import Derived.Test.YtijfedahhgcfpaaDoorNg
set_option linter.unusedVariables false
set_option linter.unusedSimpArgs false
namespace Go.Proofs.YtijfedahhgcfpaaDoor
open Go.RowKit Go.Proofs.YtijfedahhgcfpaaDoorW.PrintWords Go.Proofs.YtijfedahhgcfpaaDoorW.PrintLast

def textsE (xs : List ByteArray) : List UInt8 := (xs.map textE).flatten
theorem textsE_next (xs : List ByteArray) (i : Nat) (h : i < xs.length) : textsE (xs.take (i + 1)) = textsE (xs.take i) ++ numI ((xs[i]'h).size : Int) ++ (xs[i]'h).data.toList := by
  unfold textsE
  rw [← List.take_append_getElem h, List.map_append, List.flatten_append]
  simp [textE]
theorem textsE_pre (xs : List ByteArray) (i : Nat) : (textsE (xs.take i)).length ≤ (textsE xs).length := by
  have e : textsE xs = textsE (xs.take i) ++ textsE (xs.drop i) := by
    unfold textsE
    rw [← List.flatten_append, ← List.map_append, List.take_append_drop]
  rw [e, List.length_append]
  omega
/-- What a reader of memory sees while the writer writes. -/
def Stays (B b : Nat) (w : World) (C : World → Prop) : Prop := ∀ w', Below B w w' → BKept b w w' → C w'
theorem Stays.on {B b : Nat} {w w' : World} {C : World → Prop} (h : Stays B b w C) (h1 : Below B w w') (h2 : BKept b w w') : Stays B b w' C := fun W k1 k2 => h W (h1.trans k1) (h2.trans k2)
set_option maxRecDepth 100000 in
set_option maxHeartbeats 4000000 in
theorem texts_any (B b : Nat) (l : List UInt8) (A : Option Addr) (n c : Nat) (xs : List ByteArray) (hxn : xs.length = n) (w : World) (h : BIs B b (Lib.byteCells l) w) (hA : Stays B b w fun W => Kd.string.C W A n xs) (hl : (l ++ textsE xs).length ≤ 100000000000) (hn : n ≤ 1000000000) (hBw : B ≤ w.heap.size) (hG : Stays B b w Ground) :
    Calls Tryd.prog 17 #[.pointer (some ⟨b, 0, none⟩), .slice A n c] w fun e w' => e = .returned (.tuple #[]) ∧ Wr B b (l ++ textsE xs) w w' := by
  have HA := Lib.hid hA
  have HG := Lib.hid hG
  have HXN := Lib.hid hxn
  have HL := Lib.hid (And.intro hl hBw)
  have HH := Lib.hid (Wr.here h hBw)
  clear hA hG hxn hl hBw h
  go_enter Tryd.func17, Tryd.ntmps17
  go_wp2_with fail
  go_loopw [8] (fun vi wr => ∃ i : Nat, i ≤ n ∧ vi = .int .i64 (i : Int) ∧ Wr B b (l ++ textsE (xs.take i)) w wr) (fun vi _ => n - (Lib.intOf vi).toNat)
  case atStart => exact ⟨0, Nat.zero_le _, rfl, by rw [List.take_zero, show l ++ textsE [] = l from List.append_nil l]; exact HH.out⟩
  case round =>
    obtain ⟨i, hin0, rfl, hw⟩ := hrel
    have HW := Lib.hid hw
    clear hw
    by_cases hin : i < n
    · have hin1 : (i : Int) < (n : Int) := by omega
      have hi0 : (0 : Int) ≤ (i : Int) := by omega
      have hxi : i < xs.length := by rw [HXN.out]; exact hin
      obtain ⟨ad, e, hc⟩ := at_str (HA.out wr HW.out.bel HW.out.kept) i hin
      subst e
      have hnx := textsE_next xs i hxi
      have hpre := textsE_pre xs (i + 1)
      rw [show xs.getD i ⟨#[]⟩ = xs[i]'hxi by rw [List.getD_eq_getElem?_getD, List.getElem?_eq_getElem hxi]; rfl] at hc
      obtain ⟨x, hx⟩ : ∃ x, x = xs[i]'hxi := ⟨_, rfl⟩
      rw [← hx] at hc hnx
      have hlen := hpre
      rw [hnx] at hlen
      simp only [List.length_append] at hlen
      have hxs : x.data.toList.length = x.size := by simp
      have HNX := Lib.hid hnx
      have HLEN := Lib.hid (And.intro hlen (And.intro hxs (numI_lo x.size)))
      have hll := HL.out.1
      rw [List.length_append] at hll
      have HLL := Lib.hid hll
      clear hnx hpre hlen hx hxs hll hxi
      go_wp2_with fail
      refine (number_any B b (l ++ textsE (xs.take i)) (x.size : Int) wr HW.out.bld ⟨by omega, by have := HLEN.out.1; have := HLEN.out.2.1; have := HLEN.out.2.2; have := HLL.out; omega⟩ (by rw [List.length_append]; have := HLEN.out.1; have := HLL.out; omega) (Nat.le_trans HL.out.2 HW.out.bel.size) (HG.out wr HW.out.bel HW.out.kept)).mono ?_
      rintro e w1 ⟨rfl, k1⟩
      have HW1 := Lib.hid (HW.out.on k1)
      clear k1
      go_wp2_with fail
      refine (writeString_k B b _ x w1 HW1.out.bld (by rw [Lib.byteCells_length]; simp only [List.length_append]; have := HLEN.out.1; have := HLEN.out.2.1; have := HLL.out; omega) (Nat.le_trans HL.out.2 HW1.out.bel.size)).mono ?_
      rintro e w2 ⟨rfl, k1, k2, k3⟩
      rw [Lib.strCells_eq, ← Lib.byteCells_append] at k1
      have HW2 := Lib.hid (HW1.out.on ⟨.inr k1, k2, k3, Nat.le_trans HL.out.2 HW1.out.bel.size⟩)
      clear k1 k2 k3
      go_wp2_with fail
      refine ⟨⟨i + 1, by omega, by go_num, ?_⟩, by first | (simp [Lib.intOf]; done) | (simp [Lib.intOf]; omega)⟩
      have h2 := HW2.out
      rw [List.append_assoc, List.append_assoc] at h2
      rw [HNX.out, List.append_assoc]
      exact h2
    · obtain rfl : i = n := by omega
      have hin1 : ¬ (i : Int) < (i : Int) := by omega
      have HT := Lib.hid (show xs.take i = xs from List.take_of_length_le (by rw [HXN.out]; exact Nat.le_refl _))
      go_wp2_with fail
      have h2 := HW.out
      rw [HT.out] at h2
      exact bodyPost_end (results_none rfl _ _ _) rfl ⟨rfl, h2⟩
set_option maxRecDepth 100000 in
set_option maxHeartbeats 4000000 in
theorem wlist_any (B b : Nat) (l : List UInt8) (A : Option Addr) (n c : Nat) (xs : List ByteArray) (hxn : xs.length = n) (w : World) (h : BIs B b (Lib.byteCells l) w) (hA : Stays B b w fun W => Kd.string.C W A n xs) (hl : (l ++ listE textE xs).length ≤ 100000000000) (hn : n ≤ 1000000000) (hBw : B ≤ w.heap.size) (hG : Stays B b w Ground) :
    Calls Tryd.prog 18 #[.pointer (some ⟨b, 0, none⟩), .slice A n c] w fun e w' => e = .returned (.tuple #[]) ∧ Wr B b (l ++ listE textE xs) w w' := by
  have e : listE textE xs = numI (n : Int) ++ textsE xs := by unfold listE textsE; rw [hxn]
  rw [e, ← List.append_assoc] at hl ⊢
  have HA := Lib.hid hA
  have HG := Lib.hid hG
  have HXN := Lib.hid hxn
  have HL := Lib.hid (And.intro hl hBw)
  have HN := Lib.hid hn
  have HH := Lib.hid h
  clear hA hG hxn hl hBw h e hn
  go_enter Tryd.func18, Tryd.ntmps18
  go_wp2_with fail
  refine (number_any B b l (n : Int) w HH.out ⟨by omega, by have := HN.out; omega⟩ (by have := HL.out.1; simp only [List.length_append] at this; omega) HL.out.2 (HG.out w (Below.refl _ _) (Lib.OthersKept.refl _ _ _))).mono ?_
  rintro e w1 ⟨rfl, k1⟩
  have HW := Lib.hid k1
  clear k1
  go_wp2_with fail
  refine (texts_any B b (l ++ numI (n : Int)) A n c xs HXN.out w1 HW.out.bld (HA.out.on HW.out.bel HW.out.kept) HL.out.1 HN.out (Nat.le_trans HL.out.2 HW.out.bel.size) (HG.out.on HW.out.bel HW.out.kept)).mono ?_
  rintro e w2 ⟨rfl, k1⟩
  have HW2 := Lib.hid (HW.out.on k1)
  clear k1
  go_wp2_with fail
  exact bodyPost_end (results_none rfl _ _ _) rfl ⟨rfl, HW2.out⟩
end Go.Proofs.YtijfedahhgcfpaaDoor
