/- The live question of chapter 02's statements. -/
import Derived.Test.YtbnkpfflfiehjaaShaJ
import Derived.Test.YtbnkpfflfiehjaaShaE
import Derived.Test.YtbnkpfflfiehjaaShaO
import Derived.Lib.SlBytesConst
set_option linter.unusedVariables false
set_option linter.unusedSimpArgs false
namespace Go.Proofs.Ytbnkpfflfiehjaa
open Go.RowKit Go.Proofs.YtbnkpfflfiehjaaW.PrintWords Go.Proofs.YtbnkpfflfiehjaaW.PrintLast

theorem named_abc : named (name [97#8, 98#8, 99#8]) = true := by rw [name_abc]; kernel_rfl
theorem named_nil : named ⟨#[]⟩ = false := by kernel_rfl

theorem C_of_cells {w : World} {b : Nat} {t : TypeId} {fr : Nat × Nat} {xs : List (BitVec 8)} (h : w.heap[b]? = some (.cells (bcells xs) t fr)) (hm : xs.length ≤ 9223372036854775807) :
    Kd.C (Kd.int .u8) w (some ⟨b, 0, none⟩) xs.length (xs.map byt) := by
  refine ⟨by simp, hm, fun _ => ⟨_, rfl, fun j x hj => ?_⟩⟩
  rw [List.getElem?_map] at hj
  obtain ⟨y, hy, rfl⟩ := Option.map_eq_some_iff.1 hj
  refine ⟨[.int .u8 (byt y)], rfl, rfl, fun k u hk => ?_⟩
  match k, hk with
  | 0, hk =>
    obtain rfl := Option.some.inj hk
    have e2 : ((⟨b, 0, none⟩ : Addr).add (j * (Kd.int .u8).sz + 0)) = ⟨b, j, none⟩ := by rw [addr_add]; simp [Kd.int, Kd.scalar]
    rw [e2, Lib.cell_of_heap h]
    simp [bcells, hy]
set_option maxRecDepth 100000 in
set_option maxHeartbeats 4000000 in
theorem head_any (w : World) : Calls Try.prog 8 #[] w fun e w' => e = .returned (.bool true) ∧ Below w.heap.size w w' := by
  have kc := fun (w : World) (C : Array Value) (n c : Nat) => Lib.run_convert_bytes_const (P := Try.prog) w 22 5 C n c Try.underlying22 Try.underlying5
  go_enter Try.func8, Try.ntmps8
  go_wp2_with fail
  clear kc
  have hA : Below w.heap.size w (w.alloc (.cells (bcells [97#8, 98#8, 99#8]) 5 (3, 4))) := (Below.refl _ _).alloc (Nat.le_refl _) _
  have hC : Kd.C (Kd.int .u8) (w.alloc (.cells (bcells [97#8, 98#8, 99#8]) 5 (3, 4))) (some ⟨w.heap.size, 0, none⟩) 3 ([97#8, 98#8, 99#8].map byt) := C_of_cells (xs := [97#8, 98#8, 99#8]) (fr := (3, 4)) (t := 5) (by show (w.heap.push _)[w.heap.size]? = _; simp) (by decide)
  refine (name_any 3 (some ⟨w.heap.size, 0, none⟩) [97#8, 98#8, 99#8] _ hC (by decide) (by decide)).mono ?_
  obtain ⟨X, hX⟩ : ∃ X, X = name [97#8, 98#8, 99#8] := ⟨_, rfl⟩
  have hX2 : X = ⟨#[98, 97, 55, 56, 49, 54, 98, 102, 56, 102, 48, 49, 99, 102, 101, 97, 52, 49, 52, 49, 52, 48, 100, 101, 53, 100, 97, 101, 50, 50, 50, 51, 98, 48, 48, 51, 54, 49, 97, 51, 57, 54, 49, 55, 55, 97, 57, 99, 98, 52, 49, 48, 102, 102, 54, 49, 102, 50, 48, 48, 49, 53, 97, 100]⟩ := hX.trans name_abc
  have hX3 : named X = true := by rw [hX]; exact named_abc
  rw [← hX]
  have hXL : (X.toList == [98, 97, 55, 56, 49, 54, 98, 102, 56, 102, 48, 49, 99, 102, 101, 97, 52, 49, 52, 49, 52, 48, 100, 101, 53, 100, 97, 101, 50, 50, 50, 51, 98, 48, 48, 51, 54, 49, 97, 51, 57, 54, 49, 55, 55, 97, 57, 99, 98, 52, 49, 48, 102, 102, 54, 49, 102, 50, 48, 48, 49, 53, 97, 100]) = true := by
    rw [hX2]
    kernel_rfl
  have HX := Lib.hid hX3
  have HX2 := Lib.hid hX2
  clear hX hX2 hX3 hC
  rintro e w1 ⟨rfl, hB⟩
  have HB := Lib.hid (hA.trans (hB.mono (by simp)))
  clear hB hA
  go_wp2_with fail
  refine (named_any X w1).mono ?_
  rintro e w2 ⟨rfl, hB⟩
  rw [HX.out]
  have HB2 := Lib.hid (below_then HB.out HB.out.size hB)
  clear hB
  go_wp2_with fail
  refine (named_any ⟨#[]⟩ w2).mono ?_
  rintro e w3 ⟨rfl, hB⟩
  rw [named_nil]
  have HB3 := Lib.hid (below_then HB2.out HB2.out.size hB)
  clear hB
  go_wp2_with fail
  refine (name_any 0 none [] w3 (Kd.C_nil _ _) (by decide) (by decide)).mono ?_
  rintro e w4 ⟨rfl, hB⟩
  rw [name_nil]
  have HB4 := Lib.hid (below_then HB3.out HB3.out.size hB)
  clear hB
  go_wp2_with fail
  trace_state
  go_ret
  exact ⟨rfl, HB4.out⟩
end Go.Proofs.Ytbnkpfflfiehjaa
