/- Files: all files, by rising names. -/
import Derived.Test.YtbfpmlblnfablaaDiskJ
import Derived.Shelf.AbstractIn
set_option linter.unusedVariables false
set_option linter.unusedSimpArgs false
namespace Go.Proofs.Ytbfpmlblnfablaa
open Go.RowKit Go.Proofs.YtbfpmlblnfablaaW.PrintWords Go.Proofs.YtbfpmlblnfablaaW.PrintLast Go.Proofs.YtbfpmlblnfablaaW.PrintMore
open Go.Shelf Go.Sort

theorem bytesBefore_lt : ∀ (a b : List UInt8), bytesBefore a b = true → a < b
  | [], [], h => by cases h
  | [], _ :: _, _ => List.nil_lt_cons _ _
  | _ :: _, [], h => by cases h
  | x :: a, y :: b, h => by
    have h' : (x < y || (x == y && bytesBefore a b)) = true := by simpa [bytesBefore] using h
    rw [List.cons_lt_cons_iff]
    rcases Bool.or_eq_true_iff.1 h' with h1 | h1
    · exact .inl (of_decide_eq_true h1)
    · obtain ⟨h2, h3⟩ := Bool.and_eq_true_iff.1 h1
      exact .inr ⟨by simpa using h2, bytesBefore_lt a b h3⟩
def namesL (vs : List (ByteArray × Value)) : List (List UInt8) := vs.map fun x => x.1.data.toList
theorem names_rise {w : World} {b : Nat} {vs : List (ByteArray × Value)} (h : OwnM w b vs) : (namesL vs).Pairwise (fun x y => bytesBefore x y = true) := by
  obtain ⟨es, e, hp, _⟩ := World.ownsMap.canon h keyS
  have e' : vs.map entW = es := DataW.map.inj e
  rw [← e', List.pairwise_map] at hp
  unfold namesL
  rw [List.pairwise_map]
  exact hp.imp (fun h => h)
theorem names_keys (vs : List (ByteArray × Value)) : strKeys (mapW vs) = namesL vs := by
  show (vs.map entW).map _ = _
  unfold namesL
  rw [List.map_map]
  rfl
theorem names_sorted {w : World} {b : Nat} {vs : List (ByteArray × Value)} (h : OwnM w b vs) {ss : List (List UInt8)} (hp : ss.Perm (strKeys (mapW vs))) : ss.mergeSort (fun x y => decide (x ≤ y)) = namesL vs := by
  rw [names_keys] at hp
  rw [mergeSort_of_perm hp]
  refine List.mergeSort_of_pairwise ((names_rise h).imp (fun {x y} hxy => ?_))
  exact decide_eq_true (List.le_of_lt (bytesBefore_lt _ _ hxy))
theorem enc_name (s : ByteArray) : encStr s.data.toList = .string s := by
  show Value.string ⟨s.data.toList.toArray⟩ = _
  rw [Array.toArray_toList]
theorem sortsM (m : Nat) : AnyZ.SortsIn Try.prog Try.sortedM_ren Fence.wide m :=
  ⟨fun blk off cap ss W hH hblk hsz => callsIn_wide.2 (AnyM.slices_Sort_string Try.sortM blk off cap ss W hH hblk hsz),
   fun p cap W => callsIn_wide.2 (AnyM.slices_Sort_string_none Try.sortM p cap W)⟩
theorem keys_any (b : Nat) (w : World) : Calls Try.prog 44 #[.map (some b)] w fun e w' => e = .returned (.func (.func 63) #[] #[.pointer (some ⟨w.heap.size, 0, none⟩)]) ∧ w' = w.alloc (.cells #[.map (some b)] 63) :=
  (callsIn_wide (n := 5)).1 (AnyZ.keys_in Try.keysM Fence.wide 5 trivial rfl (some b) w)
theorem sorted_any (w : World) (b : Nat) (vs : List (ByteArray × Value)) (h : OwnM w b vs) (hn : vs.length ≤ 1000000) :
    Calls Try.prog 43 #[.func (.func 63) #[] #[.pointer (some ⟨w.heap.size, 0, none⟩)]] (w.alloc (.cells #[.map (some b)] 63)) fun e w' =>
      ∃ v, e = .returned v ∧ Kd.R Kd.string 9 w' w.heap.size (fun _ => True) v (vs.map fun x => x.1) ∧ Below w.heap.size w w' := by
  have hbl := OwnM.lt h
  have hseq : SeqGives Fence.wide 2 Try.prog 63 #[.pointer (some ⟨w.heap.size, 0, none⟩)] encStr (fun ss => ss.Perm (strKeys (mapW vs))) (Maps.size (mapW vs)) (w.alloc (.cells #[.map (some b)] 63)) :=
    AnyZ.keys_gives (ρ := Try.keysM_ren) { Try.keysM with } Fence.wide _ trivial rfl (by omega) w.heap.size b vs.length (mapW vs) (R := rdSl) _ (by simp) (by simp) (by
      obtain ⟨es, clock, hb, Ft, hs, hD⟩ := h
      exact ⟨es, clock, (Below.heap_alloc _ _ b hbl).trans hb, Ft, hs, hD⟩)
  have hz : Maps.size (mapW vs) = vs.length := by simp [Maps.size]
  have cS := AnyZ.sorted_in Try.sortedM Fence.wide 5 trivial trivial trivial trivial rfl (by omega) (sortsM _) (enters_of Try.func62 (by kernel_rfl) rfl) 63 #[.pointer (some ⟨w.heap.size, 0, none⟩)] trivial
    (enters_of Try.func63 (by kernel_rfl) rfl) _ _ (by rw [hz]; unfold maxLen; omega) (by rw [hz]; omega) _ hseq
  change CallsIn _ _ Try.prog 43 _ _ _ at cS
  refine ((callsIn_wide (n := 5)).1 cS).mono ?_
  rintro e w' ⟨v, ss, rfl, hS, hrow, _, hB⟩
  refine ⟨v, rfl, ?_, ((Below.refl _ w).alloc (Nat.le_refl _) _).trans (hB.mono (by simp))⟩
  have hl : ss.length = (vs.map fun x => x.1).length := by rw [hS.length_eq, names_keys]; simp [namesL]
  rw [names_sorted h hS] at hrow
  have he : (namesL vs).map encStr = encs Value.string (vs.map fun x => x.1) := by
    unfold namesL encs
    rw [List.map_map, List.map_map]
    refine List.map_congr_left (fun x _ => ?_)
    exact enc_name x.1
  rw [he, hl] at hrow
  exact Kd.R_lower (Kd.R_of_own hrow (fun _ _ => trivial)) (by simp)
end Go.Proofs.Ytbfpmlblnfablaa
