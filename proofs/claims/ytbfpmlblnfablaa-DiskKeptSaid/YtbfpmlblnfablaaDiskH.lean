/- The live question of the disk's statements. -/
import Derived.Test.YtbfpmlblnfablaaDiskG
import Derived.Lib.SlBytesConst
import Derived.Lib.Strings
set_option linter.unusedVariables false
set_option linter.unusedSimpArgs false
namespace Go.Proofs.Ytbfpmlblnfablaa
open Go.RowKit Go.Proofs.YtbfpmlblnfablaaW.PrintWords Go.Proofs.YtbfpmlblnfablaaW.PrintLast Go.Proofs.YtbfpmlblnfablaaW.PrintMore

abbrev sOf (l : List UInt8) : ByteArray := ⟨l.toArray⟩
/-- Bytes that have just been laid. -/
theorem lit_C (w : World) (l : List Int) (t : TypeId) (fr : Nat × Nat) (n : Nat) (hn : l.length = n) (hl : n ≤ 1000000) : Kd.C (Kd.int .u8) (w.alloc (.cells (l.map (Value.int .u8)).toArray t fr)) (some ⟨w.heap.size, 0, none⟩) n l := by
  refine Kd.C_of_reads (d := (0 : Int)) ⟨hn, by omega, fun _ => ⟨_, rfl, fun j hj => ?_⟩⟩
  rw [show (⟨w.heap.size, 0, none⟩ : Addr).add j = ⟨w.heap.size, j, none⟩ by cases j <;> simp [Addr.add]]
  rw [cell_of_row _ _ _ _ _ _ (heap_alloc_new w (.cells (l.map (Value.int .u8)).toArray t fr))]
  simp [List.getElem?_eq_getElem (show j < l.length by omega), List.getD_eq_getElem?_getD]
theorem lit_Cb (w : World) (l : List Bool) (t : TypeId) (fr : Nat × Nat) (n : Nat) (hn : l.length = n) (hl : n ≤ 1000000) : Kd.C Kd.bool (w.alloc (.cells (l.map Value.bool).toArray t fr)) (some ⟨w.heap.size, 0, none⟩) n l := by
  refine Kd.C_of_reads (d := false) ⟨hn, by omega, fun _ => ⟨_, rfl, fun j hj => ?_⟩⟩
  rw [show (⟨w.heap.size, 0, none⟩ : Addr).add j = ⟨w.heap.size, j, none⟩ by cases j <;> simp [Addr.add]]
  rw [cell_of_row _ _ _ _ _ _ (heap_alloc_new w (.cells (l.map Value.bool).toArray t fr))]
  simp [List.getElem?_eq_getElem (show j < l.length by omega), List.getD_eq_getElem?_getD]
theorem make_run (m : Nat) (hm : m ≤ 1000000) : ∀ W : World, (Instr.makeSlice 22 (.int .i64 (m : Int)) (.int .i64 (m : Int))).run Try.prog W = .ok (.slice (some ⟨W.heap.size, 0, none⟩) m m) (W.alloc (.cells (madeCells #[.int .u8 0] m) 5)) :=
  print_make 22 5 .u8 1 Try.underlying22 infoU8 (by decide) m (by omega)
theorem make_C (W : World) (m : Nat) (hm : m ≤ 1000000) : Kd.C (Kd.int .u8) (W.alloc (.cells (madeCells #[.int .u8 0] m) 5)) (some ⟨W.heap.size, 0, none⟩) m (List.replicate m 0) := by
  have hR : Kd.R (Kd.int .u8) 5 (W.alloc (.cells (madeCells #[.int .u8 0] m) 5)) W.heap.size (fun _ => True) (.slice (some ⟨W.heap.size, 0, none⟩) m m) (List.replicate m 0) := Kd.R_of_own (by
    have := Go.Proofs.YtbfpmlblnfablaaW.PrintWords.own_made W W.heap.size 5 .u8 m (Nat.le_refl _) (by omega)
    rw [List.length_replicate]
    exact this) (fun _ _ => trivial)
  have h := (Kd.R_reads' hR).2.2
  rw [List.length_replicate] at h
  exact h
def h1D : D := writeD (newD 9) (sOf [97]) [120]
def h2D : D := syncD h1D
def h3D : D := writeD h2D (sOf [97]) [121, 122]
def h4D : D := renameD h3D (sOf [97]) (sOf [98])
def h5D : D := writeD h4D (sOf [99]) [0, 0, 0, 0, 0, 0, 0, 0]
def h6D : D := crashD h5D [false, true]
theorem h0I : SmallI 0 (newD 9) := SmallI.new 9 (by omega)
theorem h1I : SmallI 1 h1D := h0I.write _ _
theorem h2I : SmallI 2 h2D := h1I.sync
theorem h3I : SmallI 3 h3D := h2I.write _ _
theorem h4I : SmallI 4 h4D := h3I.rename _ _
theorem h5I : SmallI 5 h5D := h4I.write _ _
theorem h6I : SmallI 6 h6D := h5I.crash _
theorem h0E : writeE (newD 9) (sOf [97]) [120] = 0 := by kernel_rfl
theorem h1E : syncE h1D = 0 := by kernel_rfl
theorem h2E : writeE h2D (sOf [97]) [121, 122] = 0 := by kernel_rfl
theorem h3E : renameE h3D (sOf [97]) (sOf [98]) = 0 := by kernel_rfl
theorem h4E : writeE h4D (sOf [99]) [0, 0, 0, 0, 0, 0, 0, 0] = 11 := by kernel_rfl
theorem h5L : h5D.ch.length = 2 := by kernel_rfl
theorem h6R : readE h6D (sOf [98]) = 0 := by kernel_rfl
theorem h6B : readB h6D (sOf [98]) = [120] := by kernel_rfl
theorem h6A : h6D.acts = 4 := by kernel_rfl
theorem h6U : used h6D.now = 1 := by kernel_rfl
theorem lit_x : ((strOfNums [120]).toList == [120]) = true := by
  rw [ByteArray.toList_eq]
  rfl
set_option maxRecDepth 100000 in
set_option maxHeartbeats 4000000 in
theorem head_any (w : World) : Calls Try.prog 10 #[] w fun r w' => r = .returned (.bool true) ∧ Below w.heap.size w w' := by
  have hmk : ∀ W : World, (Instr.makeSlice 22 (.int .i64 8) (.int .i64 8)).run Try.prog W = .ok (.slice (some ⟨W.heap.size, 0, none⟩) 8 8) (W.alloc (.cells (madeCells #[.int .u8 0] 8) 5)) := make_run 8 (by omega)
  have kc := fun (w : World) (C : Array Value) (n c : Nat) => Lib.run_convert_bytes_const (P := Try.prog) w 22 5 C n c Try.underlying22 Try.underlying5
  go_enter Try.func10, Try.ntmps10
  go_wp2_with fail
  refine (new_F 9 w w (Below.refl _ _) (fun _ => False) (fun _ h => h.elim)).mono ?_
  rintro r w1 ⟨g, rfl, hD1, _⟩
  have HD1 := Lib.hid hD1
  clear hD1
  go_wp2_with fail
  refine (write_F (HD1.out.below ((Below.refl _ _).alloc (Nat.le_refl _) _)) (h0I.small (by omega)) (sOf [97]) (by decide) _ 1 1 [120] rfl (lit_C w1 [120] _ _ 1 rfl (by omega)) (Nat.le_refl _) (by omega)).mono ?_
  rw [h0E]
  rintro r w2 ⟨rfl, hD2, _⟩
  have HD2 := Lib.hid (show DiskF w w2 (fun _ => False) g h1D from hD2)
  clear hD2 HD1
  go_wp2_with fail
  refine (sync_F HD2.out (h1I.small (by omega))).mono ?_
  rw [h1E]
  rintro r w3 ⟨rfl, hD3, _⟩
  have HD3 := Lib.hid (show DiskF w w3 (fun _ => False) g h2D from hD3)
  clear hD3 HD2
  go_wp2_with fail
  refine (write_F (HD3.out.below ((Below.refl _ _).alloc (Nat.le_refl _) _)) (h2I.small (by omega)) (sOf [97]) (by decide) _ 2 2 [121, 122] rfl (lit_C w3 [121, 122] _ _ 2 rfl (by omega)) (Nat.le_refl _) (by omega)).mono ?_
  rw [h2E]
  rintro r w4 ⟨rfl, hD4, _⟩
  have HD4 := Lib.hid (show DiskF w w4 (fun _ => False) g h3D from hD4)
  clear hD4 HD3
  go_wp2_with fail
  refine (rename_F HD4.out (h3I.small (by omega)) (sOf [97]) (sOf [98]) (by decide) (by decide)).mono ?_
  rw [h3E]
  rintro r w5 ⟨rfl, hD5, _⟩
  have HD5 := Lib.hid (show DiskF w w5 (fun _ => False) g h4D from hD5)
  clear hD5 HD4
  go_wp2_with fail
  refine (write_F (HD5.out.below ((Below.refl _ _).alloc (Nat.le_refl _) _)) (h4I.small (by omega)) (sOf [99]) (by decide) _ 8 8 [0, 0, 0, 0, 0, 0, 0, 0] rfl (make_C w5 8 (by omega)) (Nat.le_refl _) (by omega)).mono ?_
  rw [h4E]
  rintro r w6 ⟨rfl, hD6, _⟩
  have HD6 := Lib.hid (show DiskF w w6 (fun _ => False) g h5D from hD6)
  clear hD6 HD5
  go_wp2_with fail
  refine (loose_F HD6.out).mono ?_
  rw [h5L]
  rintro r w7 ⟨rfl, e7⟩
  rw [e7]
  clear e7 w7
  go_wp2_with fail
  refine (crash_F (HD6.out.below ((Below.refl _ _).alloc (Nat.le_refl _) _)) (h5I.small (by omega)) _ 2 2 [false, true] rfl (lit_Cb w6 [false, true] _ _ 2 rfl (by omega))).mono ?_
  rintro r w8 ⟨rfl, hD8, _⟩
  have HD8 := Lib.hid (show DiskF w w8 (fun _ => False) g h6D from hD8)
  clear hD8 HD6
  go_wp2_with fail
  refine (read_F HD8.out (h6I.small (by omega)) (sOf [98]) (by decide)).mono ?_
  rw [h6R, h6B]
  rintro r w9 ⟨v, rfl, hR, hB9⟩
  obtain ⟨A9, c9, rfl, _, hC9⟩ := Kd.R_reads hR
  have hst : (convert 22 9 (.slice A9 1 c9)).run Try.prog w9 = .ok (.string (strOfNums [120])) w9 := Kd.C_string Try.underlying22 Try.underlying5 Try.underlying9 hC9
  have HD9 := Lib.hid (HD8.out.below hB9)
  have hx := lit_x
  have ha := acts_F HD9.out
  rw [h6A] at ha
  have hu := used_F HD9.out (h6I.small (by omega))
  rw [h6U] at hu
  have HA := Lib.hid (And.intro ha hu)
  clear hR hB9 hC9 HD8 ha hu
  rw [show ([120] : List Int).length = 1 from rfl]
  go_wp2_with fail
  refine HA.out.1.mono ?_
  rintro r w10 ⟨rfl, e10⟩
  rw [e10]
  clear e10 w10
  go_wp2_with fail
  refine HA.out.2.mono ?_
  rintro r w11 ⟨rfl, hB11⟩
  have HB11 := Lib.hid hB11
  clear hB11
  go_wp2_with fail
  go_ret
  exact ⟨rfl, HD9.out.hB.trans (HB11.out.mono HD9.out.hB.size)⟩
end Go.Proofs.Ytbfpmlblnfablaa
