/- The reader of patches' bytes: a text, a list of texts. -/
import Derived.Test.YtijfedahhgcfpaaDoorNamJ
import Derived.Laws.Rows
import Derived.Laws.Tables
import Derived.Laws.CopyOwn
set_option linter.unusedVariables false
set_option linter.unusedSimpArgs false
namespace Go.Proofs.YtijfedahhgcfpaaDoor
open Go.RowKit Go.Proofs.YtijfedahhgcfpaaDoorW.PrintWords Go.Proofs.YtijfedahhgcfpaaDoorW.PrintLast

theorem rnum_size (s : RS) : (rnum s).2.1.size ≤ s.1.size := by
  unfold rnum
  split
  · rename_i n r h
    split
    · exact Nat.le_refl _
    · have e := congrArg List.length (numP_back h).2
      rw [List.length_append] at e
      show (baN r).size ≤ _
      rw [baN_size]
      have : s.1.data.toList.length = s.1.size := by simp
      omega
  · exact Nat.le_refl _
theorem rtext_size (s : RS) : (rtext s).2.1.size ≤ s.1.size := by
  unfold rtext
  have h := rnum_size s
  split
  · exact h
  · show (baN _).size ≤ _
    rw [baN_size, List.length_drop]
    have : (rnum s).2.1.data.toList.length = (rnum s).2.1.size := by simp
    omega
theorem ext_take (s : ByteArray) (n : Nat) : s.extract 0 n = baN (s.data.toList.take n) := by
  apply bytes_injN
  rw [ByteArray.data_extract, Array.toList_extract]
  simp [baN, List.extract]
theorem ext_drop (s : ByteArray) (n : Nat) : s.extract n s.size = baN (s.data.toList.drop n) := by
  apply bytes_injN
  rw [ByteArray.data_extract, Array.toList_extract]
  show ((s.data.toList.drop n).take (s.size - n)) = s.data.toList.drop n
  exact List.take_of_length_le (by rw [List.length_drop]; simp)
set_option maxRecDepth 100000 in
set_option maxHeartbeats 8000000 in
theorem rtext_any (rb : Nat) (st : RS) (w : World) (h : RAt w rb st) (hs : st.1.size < 4294967281) (hG : Ground w) :
    Calls Tryd.prog 23 #[.pointer (some ⟨rb, 0, none⟩)] w fun e w' => e = .returned (.string (rtext st).1) ∧ RAt w' rb (rtext st).2 ∧ w.grownBy w' (some rb) := by
  have HN := Lib.hid (rnumber_any rb st.1 st.2 w h hs hG)
  have hz := rnum_size st
  obtain ⟨⟨n, s1, b1⟩, hq⟩ : ∃ q, q = rnum st := ⟨_, rfl⟩
  have hlt := rnum_lt st
  have ht : rtext st = if b1 = true ∨ s1.size < n then (⟨#[]⟩, (s1, true)) else (baN (s1.data.toList.take n), (baN (s1.data.toList.drop n), false)) := by
    unfold rtext
    rw [← hq]
  rw [ht]
  rw [← hq] at hlt hz
  rw [show rnum (st.1, st.2) = (n, s1, b1) from hq.symm] at HN
  simp only at hlt hz HN
  have HZ := Lib.hid (And.intro hlt hz)
  clear ht hq h hs hG hlt hz
  go_enter Tryd.func23, Tryd.ntmps23
  go_wp2_with fail
  refine HN.out.mono ?_
  rintro e w1 ⟨rfl, hR, hg⟩
  obtain ⟨c0, c1, gl, fz0, fz1⟩ := hR.cells
  have HR := Lib.hid (And.intro hR hg)
  clear hR hg
  cases b1 with
  | true =>
    go_wp2_with fail
    go_ret
    exact ⟨rfl, HR.out.1.set1 true, gb_setCell HR.out.2 (.inl rfl) _⟩
  | false =>
    rcases Nat.lt_or_ge s1.size n with hn | hn
    · have hnI : (s1.size : Int) < (n : Int) := by omega
      have HNN := Lib.hid hn
      clear hn
      go_wp2_with fail
      go_ret
      exact ⟨rfl, HR.out.1.set1 true, gb_setCell HR.out.2 (.inl rfl) _⟩
    · have hnI : ¬ (s1.size : Int) < (n : Int) := by omega
      have hn0 : (0 : Int) ≤ (n : Int) := by omega
      have hn1 : (n : Int) ≤ (s1.size : Int) := by omega
      have HNN := Lib.hid hn
      clear hn
      go_wp2_with fail
      all_goals first | omega | (go_ret; rw [← ext_take s1 n, ← ext_drop s1 n]; exact ⟨rfl, HR.out.1.set0 _, gb_setCell HR.out.2 (.inl rfl) _⟩)
theorem gb_own {w W w1 : World} {rb : Nat} {v : Value} (h : w.grownBy W (some rb)) (hg : W.grownBy w1 v.ownBlock) (hk : ∀ k, v.ownBlock = some k → w.heap.size ≤ k) : w.grownBy w1 (some rb) :=
  ⟨hg.os.trans h.os, hg.tape.trans h.tape, hg.output.trans h.output, Nat.le_trans h.size hg.size, fun i hi hne => (hg.block i (Nat.lt_of_lt_of_le hi h.size) (fun e => by have := hk i e.symm; omega)).trans (h.block i hi hne)⟩
theorem RAt.own {W w1 : World} {rb : Nat} {s : RS} {α : Type} {d : Kd α} {e base : Nat} {ok : Nat → Prop} {v : Value} {xs : List α} (h : RAt W rb s) (hr : d.R e W base ok v xs) (he : e ≠ 58) (hg : W.grownBy w1 v.ownBlock) : RAt w1 rb s :=
  (hg.block rb (blk_lt h) (Kd.R_ne hr h he)).trans h
theorem R_base {α : Type} {d : Kd α} {e base : Nat} {ok : Nat → Prop} {w : World} {v : Value} {xs : List α} (h : d.R e w base ok v xs) : ∀ k, v.ownBlock = some k → base ≤ k := fun k hk => by
  obtain ⟨_, inner, ho, _⟩ := h
  exact own_base ho k hk
theorem infoSN : (Tryd.prog.info? 9).map (fun i => (i.zero, i.size, i.bytes)) = some (some (.string ⟨#[]⟩), 1, 16) := by kernel_rfl
theorem enters_tx : ∀ args w, (callFunc 23 args).run Tryd.prog w = .ok (.enter 23 args) w := enters_of Tryd.func23 (by kernel_rfl) rfl
theorem rmany_size {α : Type} {one : RS → α × RS} (h : ∀ s, (one s).2.1.size ≤ s.1.size) : ∀ (n : Nat) (acc : List α) (s : RS), (rmany one n acc s).2.1.size ≤ s.1.size
  | 0, acc, s => Nat.le_refl _
  | n + 1, acc, s => by
    rw [rmany]
    split
    · exact Nat.le_refl _
    · exact Nat.le_trans (rmany_size h n _ _) (h s)
theorem rsome_size {α : Type} {one : RS → α × RS} (h : ∀ s, (one s).2.1.size ≤ s.1.size) (s : RS) : (rsome one s).2.1.size ≤ s.1.size := Nat.le_trans (rmany_size h _ _ _) (rnum_size s)
set_option maxRecDepth 100000 in
set_option maxHeartbeats 8000000 in
theorem rtexts_any (rb : Nat) (st : RS) (w : World) (h : RAt w rb st) (hs : st.1.size < 4294967281) (hG : ∀ W, w.grownBy W (some rb) → Ground W) :
    Calls Tryd.prog 41 #[.pointer (some ⟨rb, 0, none⟩), .func (.func 23) #[.pointer (some ⟨rb, 0, none⟩)] #[]] w fun e w' => ∃ v, e = .returned v ∧ Kd.string.R 9 w' w.heap.size (fun _ => True) v (rsome rtext st).1 ∧ RAt w' rb (rsome rtext st).2 ∧ w.grownBy w' (some rb) := by
  have HN := Lib.hid (rnumber_any rb st.1 st.2 w h hs (hG w (gb_refl _ _)))
  have hz := rnum_size st
  obtain ⟨⟨n, s1⟩, hq⟩ : ∃ q, q = rnum st := ⟨_, rfl⟩
  have hlt := rnum_lt st
  have ht : rsome rtext st = rmany rtext n [] s1 := by
    unfold rsome
    rw [← hq]
  rw [ht]
  rw [← hq] at hlt hz
  rw [show rnum (st.1, st.2) = (n, s1) from hq.symm] at HN
  simp only at hlt hz HN
  have HZ := Lib.hid (And.intro hlt (And.intro hz hs))
  have HG := Lib.hid hG
  have eg := enters_tx
  clear ht hq h hs hG hlt hz
  go_enter Tryd.func41, Tryd.ntmps41
  go_wp2_with fail
  refine HN.out.mono ?_
  rintro e w1 ⟨rfl, hR, hg⟩
  have HR := Lib.hid (And.intro hR hg)
  clear hR hg
  go_wp2_with fail
  go_loopw [5, 6] (fun vo vi wr => ∃ (i : Nat) (acc : List ByteArray) (s : RS), i ≤ n ∧ vi = .int .i64 (i : Int) ∧ acc.length + i ≤ n ∧ Kd.string.R 9 wr w.heap.size (fun _ => True) vo acc ∧ RAt wr rb s ∧ w.grownBy wr (some rb) ∧ s.1.size ≤ st.1.size ∧ rmany rtext i acc s = rmany rtext n [] s1) (fun _ vi _ => (Lib.intOf vi).toNat)
  case atStart => exact ⟨n, [], s1, Nat.le_refl _, rfl, by simp, Kd.R_nil _ _ _ _ _, HR.out.1, HR.out.2, HZ.out.2.1, rfl⟩
  case round =>
    obtain ⟨i, acc, s, hin0, rfl, hai, hO, hr, hg, hss, hrm⟩ := hrel
    have HO := Lib.hid (And.intro hO (And.intro hr (And.intro hg (And.intro hss (And.intro hrm hai)))))
    obtain ⟨c0, c1, gl, fz0, fz1⟩ := hr.cells
    clear hO hr hg hss hrm hai
    obtain ⟨s, b⟩ := s
    cases i with
    | zero =>
      go_wp2_with fail
      go_ret
      have h5 := HO.out.2.2.2.2.1
      rw [rmany] at h5
      rw [← h5]
      exact ⟨_, rfl, HO.out.1, HO.out.2.1, HO.out.2.2.1⟩
    | succ i =>
      have hi1 : (0 : Int) < ((i + 1 : Nat) : Int) := by omega
      cases b with
      | true =>
        go_wp2_with fail
        go_ret
        have h5 := HO.out.2.2.2.2.1
        rw [rmany, if_pos rfl] at h5
        rw [← h5]
        exact ⟨_, rfl, HO.out.1, HO.out.2.1, HO.out.2.2.1⟩
      | false =>
        have h5 := HO.out.2.2.2.2.1
        rw [rmany, if_neg (by simp)] at h5
        have HT := Lib.hid (rtext_any rb (s, false) wr HO.out.2.1 (by have := HO.out.2.2.2.1; have := HZ.out.2.2; simp only at *; omega) (HG.out wr HO.out.2.2.1))
        have hts := rtext_size (s, false)
        obtain ⟨⟨x, s2⟩, hq⟩ : ∃ q, q = rtext (s, false) := ⟨_, rfl⟩
        rw [← hq] at h5 HT hts
        simp only at h5 HT hts
        have H5 := Lib.hid (And.intro h5 hts)
        clear h5 hq hts
        go_wp2_with fail
        refine HT.out.mono ?_
        rintro e w2 ⟨rfl, hr2, hg2⟩
        have hR2 := Kd.R_grown (Kd.R_types HO.out.1 HO.out.2.1 (fun q hq => by
          rcases List.mem_cons.1 hq with rfl | hq
          · decide
          · cases hq)) hg2 (fun k hk e => hk.2 (by simpa using e))
        have HW2 := Lib.hid (And.intro hr2 (And.intro (gb_trans HO.out.2.2.1 hg2) (Kd.R_mono hR2 (fun _ _ => trivial))))
        clear hr2 hg2 hR2 c0 c1 gl fz0 fz1
        have hgs := HW2.out.2.1.size
        go_wp2_with (at_builtin; go_loud (refine Kd.R_append (w0 := w2) (W := w2) Kd.string w.heap.size rfl _ _ 22 9 (.string ⟨#[]⟩) 16 rfl Tryd.underlying22 infoSN rfl (by decide) (by decide) u5 acc x [.string x] (fun _ => True) (fun _ => False) rfl rfl rfl (fun _ h => h.elim) (fun _ _ => trivial) HW2.out.2.2 (Below.refl _ _) hgs (by have := HO.out.2.2.2.2.2; have := HZ.out.1; omega) ?_))
        intro v3 w3 hR3 hB3 hg3 hat3
        have HW3 := Lib.hid (And.intro hR3 (And.intro (HW2.out.1.own HW2.out.2.2 (by decide) hg3) (gb_own HW2.out.2.1 hg3 (R_base HW2.out.2.2))))
        obtain ⟨A3, c3, e3⟩ := Kd.R_slice hR3
        subst e3
        clear hR3 hB3 hg3 hat3 hgs
        have hib : (i : Int) + 1 ≤ 100000000000 := by have := HZ.out.1; omega
        go_wp2_with fail
        refine ⟨⟨i, acc ++ [x], s2, by omega, by go_num, by have := HO.out.2.2.2.2.2; rw [List.length_append, List.length_singleton]; omega, HW3.out.1, HW3.out.2.1, HW3.out.2.2, Nat.le_trans H5.out.2 HO.out.2.2.2.1, H5.out.1⟩, by first | (simp [Lib.intOf]; done) | (simp [Lib.intOf]; omega)⟩
set_option maxRecDepth 100000 in
theorem rlist_any (rb : Nat) (st : RS) (w : World) (h : RAt w rb st) (hs : st.1.size < 4294967281) (hG : ∀ W, w.grownBy W (some rb) → Ground W) :
    Calls Tryd.prog 24 #[.pointer (some ⟨rb, 0, none⟩)] w fun e w' => ∃ v, e = .returned v ∧ Kd.string.R 9 w' w.heap.size (fun _ => True) v (rsome rtext st).1 ∧ RAt w' rb (rsome rtext st).2 ∧ w.grownBy w' (some rb) := by
  have HC := Lib.hid (rtexts_any rb st w h hs hG)
  clear h hs hG
  go_enter Tryd.func24, Tryd.ntmps24
  go_wp2_with fail
  refine HC.out.mono ?_
  rintro e w1 ⟨v, rfl, h1, h2, h3⟩
  have HH := Lib.hid (And.intro h1 (And.intro h2 h3))
  clear h1 h2 h3
  go_wp2_with fail
  go_ret
  exact ⟨_, rfl, HH.out⟩
end Go.Proofs.YtijfedahhgcfpaaDoor
/- The reader of patches' bytes: a change. (mknaml.py wrote it.) -/
set_option linter.unusedVariables false
set_option linter.unusedSimpArgs false
namespace Go.Proofs.YtijfedahhgcfpaaDoor
open Go.RowKit Go.Proofs.YtijfedahhgcfpaaDoorW.PrintWords Go.Proofs.YtijfedahhgcfpaaDoorW.PrintLast

/-- A whole array, or struct, loaded out of its block. -/
theorem wpList_load_row {P : Program} {w : World} {ops : Array Oper} {rest : List Oper} {o : Oper} {a : Act} {Q : Exit → Act → World → Prop} (hgd : o.guard = none) (p : Operand) (ty : TypeId)
    (ho : o.op = .load ty p) (g : Nat) (hp : a.eval p = .pointer (some ⟨g, 0, none⟩)) (t : TypeId) (cs : Array Value) (fr : Nat × Nat) (d : TypeDesc) (hg : w.heap[g]? = some (.cells cs t fr))
    (hu : P.underlying ty = some d) (hd : (match d with | .struct _ | .array _ _ => true | _ => false) = true) (hi : (P.info? ty).map (·.size) = some cs.size)
    (h : wpList P ops Q rest (a.put o.dst (.agg cs)) w) : wpList P ops Q (o :: rest) a w := by
  refine wpList_plain hgd fun K hK => ?_
  have hrun := run_loadVar_row (P := P) w g t ty cs fr d hg hu hd hi
  unfold Oper.wp
  simp [execOp, ho, hp, Instr.loadAt, Instr.sureAddr, hrun, Result.andThen]
  exact hK _ _ h
theorem wpList_store_row {P : Program} {w : World} {ops : Array Oper} {rest : List Oper} {o : Oper} {a : Act} {Q : Exit → Act → World → Prop} (hgd : o.guard = none) (p x : Operand) (ty : TypeId)
    (ho : o.op = .store ty p x) (g : Nat) (hp : a.eval p = .pointer (some ⟨g, 0, none⟩)) (cells : Array Value) (hx : a.eval x = .agg cells) (t : TypeId) (old : Array Value) (hg : w.heap[g]? = some (.cells old t (0, 0)))
    (hi : (P.info? ty).map (·.size) = some cells.size) (hsz : old.size = cells.size) (h1 : cells.all (·.oneCell') = true) (hds : o.dst = none)
    (h : wpList P ops Q rest a (w.setRow g cells)) : wpList P ops Q (o :: rest) a w := by
  refine wpList_plain hgd fun K hK => ?_
  have hrun := run_storeVar_row (P := P) w g t ty old cells hg hi hsz h1
  unfold Oper.wp
  simp [execOp, ho, hp, hx, Instr.storeAt, Instr.sureAddr, hrun, Result.andThen]
  simpa [Oper.upon, hds, Act.put] using hK _ _ h
theorem results_row {P : Program} {w : World} {fn : Func} {a ty : Nat} (hr : fn.results = #[.cell a ty]) (tmps : Array Value) (g : Nat) (hp : tmps.getD a undef = .pointer (some ⟨g, 0, none⟩)) (t : TypeId) (cs : Array Value) (fr : Nat × Nat) (d : TypeDesc) (hg : w.heap[g]? = some (.cells cs t fr))
    (hu : P.underlying ty = some d) (hd : (match d with | .struct _ | .array _ _ => true | _ => false) = true) (hi : (P.info? ty).map (·.size) = some cs.size) :
    (results fn tmps).run P w = .ok (.agg cs) w := by
  have hrun := run_loadVar_row (P := P) w g t ty cs fr d hg hu hd hi
  rw [Array.getD_eq_getD_getElem?] at hp
  simp [results, hr, hp, hrun, asAddr, Result.andThen]
theorem rbd_size {α β : Type} {f : RS → α × RS} {g : α → RS → β × RS} (hf : ∀ s, (f s).2.1.size ≤ s.1.size) (hg : ∀ a s, (g a s).2.1.size ≤ s.1.size) (s : RS) : (rbd f g s).2.1.size ≤ s.1.size := Nat.le_trans (hg _ _) (hf s)
theorem rnumI_size (s : RS) : (rnumI s).2.1.size ≤ s.1.size := rnum_size s
theorem rprim_size (s : RS) : (rprim s).2.1.size ≤ s.1.size :=
  rbd_size rnumI_size (fun _ => rbd_size rtext_size (fun _ => rbd_size rtext_size (fun _ => rbd_size rtext_size (fun _ => rbd_size rnumI_size (fun _ => rbd_size (rsome_size rtext_size) (fun _ => rbd_size (rsome_size rtext_size) (fun _ s => Nat.le_refl _))))))) s
theorem rnumI_any (rb : Nat) (st : RS) (w : World) (h : RAt w rb st) (hs : st.1.size < 4294967281) (hG : Ground w) :
    Calls Tryd.prog 40 #[.pointer (some ⟨rb, 0, none⟩)] w fun e w' => e = .returned (.int .i64 (rnumI st).1) ∧ RAt w' rb (rnumI st).2 ∧ w.grownBy w' (some rb) := rnumber_any rb st.1 st.2 w h hs hG
theorem RAt.far {W : World} {rb g : Nat} {s : RS} (h : RAt W rb s) (hg : rb ≠ g) (j : Nat) (u : Value) : RAt (W.setCell ⟨g, j, none⟩ u) rb s :=
  (Below.heap_setCell W ⟨g, j, none⟩ u rb hg).trans h
theorem ty_ne {q : Nat} (hq : q ∈ 9 :: Kd.string.E) (t : Nat) (ht : 9 ≠ t) : q ≠ t := by
  rcases List.mem_cons.1 hq with rfl | hq
  · exact ht
  · cases hq
theorem R_call {W W' : World} {base rb : Nat} {v : Value} {xs : List ByteArray} {s : RS} (h : Kd.string.R 9 W base (fun _ => True) v xs) (hr : RAt W rb s) (hg : W.grownBy W' (some rb)) : Kd.string.R 9 W' base (fun _ => True) v xs :=
  Kd.R_mono (Kd.R_grown (Kd.R_types h hr (fun q hq => ty_ne hq _ (by decide))) hg (fun k hk e => hk.2 (by simpa using e))) (fun _ _ => trivial)
/-- A change while it is read: its box b, and the box r that the result will lie in. -/
structure PBox (w w' : World) (rb b r : Nat) (cs z : Array Value) (s : RS) : Prop where
  st : RAt w' rb s
  gr : w.grownBy w' (some rb)
  box : w'.heap[b]? = some (.cells cs 39 (0, 0))
  res : w'.heap[r]? = some (.cells z 39 (0, 0))
  hb : w.heap.size ≤ b
  hr : w.heap.size ≤ r
  ne : b ≠ r
  nb : rb ≠ b
  nr : rb ≠ r
theorem PBox.call {w w1 w2 : World} {rb b r : Nat} {cs z : Array Value} {s s' : RS} (h : PBox w w1 rb b r cs z s) (hs : RAt w2 rb s') (hg : w1.grownBy w2 (some rb)) : PBox w w2 rb b r cs z s' :=
  ⟨hs, gb_trans h.gr hg, gb_blk hg h.box (fun e => h.nb (by simpa using e.symm)), gb_blk hg h.res (fun e => h.nr (by simpa using e.symm)), h.hb, h.hr, h.ne, h.nb, h.nr⟩
theorem PBox.set {w w1 : World} {rb b r : Nat} {cs z : Array Value} {s : RS} (h : PBox w w1 rb b r cs z s) (j : Nat) (u : Value) : PBox w (w1.setCell ⟨b, j, none⟩ u) rb b r (cs.setIfInBounds j u) z s :=
  ⟨h.st.far h.nb j u, gb_setCell h.gr (.inr h.hb) u, blk_set h.box j u, (Below.heap_setCell w1 ⟨b, j, none⟩ u r (fun e => h.ne e.symm)).trans h.res, h.hb, h.hr, h.ne, h.nb, h.nr⟩
theorem gb_setRow {a b : World} {row : Option Nat} (h : a.grownBy b row) {g : Nat} (hg : a.heap.size ≤ g) (cs : Array Value) : a.grownBy (b.setRow g cs) row :=
  ⟨h.os, h.tape, h.output, by simpa using h.size, fun i hi hne => (setRow_other b g i cs (fun e => by omega)).trans (h.block i hi hne)⟩
theorem R_setRow {W : World} {base g t : Nat} {v : Value} {xs : List ByteArray} {old : Array Value} (h : Kd.string.R 9 W base (fun _ => True) v xs) (hb : W.heap[g]? = some (.cells old t (0, 0))) (ht : 9 ≠ t) (cs : Array Value) : Kd.string.R 9 (W.setRow g cs) base (fun _ => True) v xs :=
  Kd.R_mono (Kd.R_step (Kd.R_types h hb (fun q hq => ty_ne hq _ ht)) (fun k hk _ => setRow_other W g k cs hk.2)) (fun _ _ => trivial)
set_option maxRecDepth 100000 in
set_option maxHeartbeats 16000000 in
theorem rprim_any (rb : Nat) (st : RS) (w : World) (h : RAt w rb st) (hs : st.1.size < 4294967281) (hG : ∀ W, w.grownBy W (some rb) → Ground W) :
    Calls Tryd.prog 26 #[.pointer (some ⟨rb, 0, none⟩)] w fun e w' => ∃ v5 v6, e = .returned (.agg #[.int .i64 (rprim st).1.f0, .string (rprim st).1.f1, .string (rprim st).1.f2, .string (rprim st).1.f3, .int .i64 (rprim st).1.f4, v5, v6]) ∧ Kd.string.R 9 w' w.heap.size (fun _ => True) v5 (rprim st).1.f5 ∧ Kd.string.R 9 w' w.heap.size (fun _ => True) v6 (rprim st).1.f6 ∧ RAt w' rb (rprim st).2 ∧ w.grownBy w' (some rb) := by
  obtain ⟨⟨n0, s1⟩, hq0⟩ : ∃ q, q = rnumI st := ⟨_, rfl⟩
  obtain ⟨⟨t1, s2⟩, hq1⟩ : ∃ q, q = rtext s1 := ⟨_, rfl⟩
  obtain ⟨⟨t2, s3⟩, hq2⟩ : ∃ q, q = rtext s2 := ⟨_, rfl⟩
  obtain ⟨⟨t3, s4⟩, hq3⟩ : ∃ q, q = rtext s3 := ⟨_, rfl⟩
  obtain ⟨⟨n4, s5⟩, hq4⟩ : ∃ q, q = rnumI s4 := ⟨_, rfl⟩
  obtain ⟨⟨l5, s6⟩, hq5⟩ : ∃ q, q = rsome rtext s5 := ⟨_, rfl⟩
  obtain ⟨⟨l6, s7⟩, hq6⟩ : ∃ q, q = rsome rtext s6 := ⟨_, rfl⟩
  have hrp : rprim st = (⟨n0, t1, t2, t3, n4, l5, l6⟩, s7) := by
    simp only [rprim, rbd, rret]
    rw [← hq0, ← hq1, ← hq2, ← hq3, ← hq4, ← hq5, ← hq6]
  rw [hrp]
  clear hrp
  simp only
  have hz1 : s1.1.size ≤ st.1.size := by
    have h0 := rnumI_size st
    rw [← hq0] at h0
    exact h0
  have hz2 : s2.1.size ≤ st.1.size := by
    have h0 := rtext_size s1
    rw [← hq1] at h0
    exact Nat.le_trans h0 hz1
  have hz3 : s3.1.size ≤ st.1.size := by
    have h0 := rtext_size s2
    rw [← hq2] at h0
    exact Nat.le_trans h0 hz2
  have hz4 : s4.1.size ≤ st.1.size := by
    have h0 := rtext_size s3
    rw [← hq3] at h0
    exact Nat.le_trans h0 hz3
  have hz5 : s5.1.size ≤ st.1.size := by
    have h0 := rnumI_size s4
    rw [← hq4] at h0
    exact Nat.le_trans h0 hz4
  have hz6 : s6.1.size ≤ st.1.size := by
    have h0 := rsome_size rtext_size s5
    rw [← hq5] at h0
    exact Nat.le_trans h0 hz5
  have hz7 : s7.1.size ≤ st.1.size := by
    have h0 := rsome_size rtext_size s6
    rw [← hq6] at h0
    exact Nat.le_trans h0 hz6
  have HG := Lib.hid hG
  have HZ := Lib.hid (And.intro hs (And.intro hz1 (And.intro hz2 (And.intro hz3 (And.intro hz4 (And.intro hz5 (And.intro hz6 hz7)))))))
  have hR := h
  have HR0 := Lib.hid hR
  have HQ0 := Lib.hid hq0
  have HQ1 := Lib.hid hq1
  have HQ2 := Lib.hid hq2
  have HQ3 := Lib.hid hq3
  have HQ4 := Lib.hid hq4
  have HQ5 := Lib.hid hq5
  have HQ6 := Lib.hid hq6
  clear h hR hs hG hz1 hz2 hz3 hz4 hz5 hz6 hz7 hq0 hq1 hq2 hq3 hq4 hq5 hq6
  go_enter Tryd.func26, Tryd.ntmps26
  go_wp2_with fail
  obtain ⟨y0, hy0⟩ : ∃ y, y = w.alloc (.cells #[.int .i64 0, .string ⟨#[]⟩, .string ⟨#[]⟩, .string ⟨#[]⟩, .int .i64 0, .slice none 0 0, .slice none 0 0] 39) := ⟨_, rfl⟩
  have hB0 : Below w.heap.size w y0 := by rw [hy0]; exact (Below.refl _ _).alloc (Nat.le_refl _) _
  have hres : y0.heap[w.heap.size]? = some (.cells #[.int .i64 0, .string ⟨#[]⟩, .string ⟨#[]⟩, .string ⟨#[]⟩, .int .i64 0, .slice none 0 0, .slice none 0 0] 39 (0, 0)) := by rw [hy0]; exact heap_alloc_new w _
  rw [← hy0]
  have HY0 := Lib.hid (And.intro hB0 hres)
  clear hB0 hres hy0
  have hc0 := rnumI_any rb st y0 (HR0.out.below HY0.out.1) HZ.out.1 (HG.out y0 (gb_below HY0.out.1 _))
  rw [← HQ0.out] at hc0
  refine hc0.mono ?_
  clear hc0
  rintro e w2 ⟨rfl, hr, hg⟩
  simp only at hr
  have hlt := blk_lt HR0.out
  have hg0 := gb_trans (gb_below HY0.out.1 (some rb)) hg
  have hpb : PBox w (w2.alloc (.cells #[.int .i64 n0, .string ⟨#[]⟩, .string ⟨#[]⟩, .string ⟨#[]⟩, .int .i64 0, .slice none 0 0, .slice none 0 0] 39)) rb w2.heap.size w.heap.size #[.int .i64 n0, .string ⟨#[]⟩, .string ⟨#[]⟩, .string ⟨#[]⟩, .int .i64 0, .slice none 0 0, .slice none 0 0] #[.int .i64 0, .string ⟨#[]⟩, .string ⟨#[]⟩, .string ⟨#[]⟩, .int .i64 0, .slice none 0 0, .slice none 0 0] s1 :=
    ⟨hr.below ((Below.refl _ _).alloc (Nat.le_refl _) _), gb_alloc hg0 _, heap_alloc_new w2 _, (Lib.alloc_old _ _ _ (Nat.lt_of_lt_of_le (blk_lt HY0.out.2) hg.size)).trans (gb_blk hg HY0.out.2 (fun e => absurd (show w.heap.size = rb by simpa using e) (fun h9 => by omega))), hg0.size, Nat.le_refl _, (fun e => by have := blk_lt HY0.out.2; have := hg.size; omega), (fun e => by have := hg0.size; omega), (fun e => by omega)⟩
  have PB := Lib.hid hpb
  clear hpb hr hg hg0 hlt
  obtain ⟨z0, z1, z2, z3, z4, z5, z6⟩ := cells7p PB.out.box
  have gl := blk_lt PB.out.box
  go_wp2_with fail
  have hc := rtext_any rb s1 _ PB.out.st (Nat.lt_of_le_of_lt HZ.out.2.1 HZ.out.1) (HG.out _ PB.out.gr)
  rw [← HQ1.out] at hc
  refine hc.mono ?_
  clear hc z0 z1 z2 z3 z4 z5 z6 gl
  rintro e y1 ⟨rfl, hr, hg⟩
  simp only at hr
  have hpb := PB.out.call hr hg
  obtain ⟨z0, z1, z2, z3, z4, z5, z6⟩ := cells7p hpb.box
  have gl := blk_lt hpb.box
  have fz0 := Lib.frozen_of_heap hpb.box 0
  have fz1 := Lib.frozen_of_heap hpb.box 1
  have fz2 := Lib.frozen_of_heap hpb.box 2
  have fz3 := Lib.frozen_of_heap hpb.box 3
  have fz4 := Lib.frozen_of_heap hpb.box 4
  have fz5 := Lib.frozen_of_heap hpb.box 5
  have fz6 := Lib.frozen_of_heap hpb.box 6
  have hpb2 := hpb.set 1 (.string t1)
  have PB := Lib.hid hpb2
  clear hpb hpb2 hr hg
  go_wp2_with fail
  clear z0 z1 z2 z3 z4 z5 z6 gl fz0 fz1 fz2 fz3 fz4 fz5 fz6
  obtain ⟨z0, z1, z2, z3, z4, z5, z6⟩ := cells7p PB.out.box
  have gl := blk_lt PB.out.box
  go_wp2_with fail
  have hc := rtext_any rb s2 _ PB.out.st (Nat.lt_of_le_of_lt HZ.out.2.2.1 HZ.out.1) (HG.out _ PB.out.gr)
  rw [← HQ2.out] at hc
  refine hc.mono ?_
  clear hc z0 z1 z2 z3 z4 z5 z6 gl
  rintro e y2 ⟨rfl, hr, hg⟩
  simp only at hr
  have hpb := PB.out.call hr hg
  obtain ⟨z0, z1, z2, z3, z4, z5, z6⟩ := cells7p hpb.box
  have gl := blk_lt hpb.box
  have fz0 := Lib.frozen_of_heap hpb.box 0
  have fz1 := Lib.frozen_of_heap hpb.box 1
  have fz2 := Lib.frozen_of_heap hpb.box 2
  have fz3 := Lib.frozen_of_heap hpb.box 3
  have fz4 := Lib.frozen_of_heap hpb.box 4
  have fz5 := Lib.frozen_of_heap hpb.box 5
  have fz6 := Lib.frozen_of_heap hpb.box 6
  have hpb2 := hpb.set 2 (.string t2)
  have PB := Lib.hid hpb2
  clear hpb hpb2 hr hg
  go_wp2_with fail
  clear z0 z1 z2 z3 z4 z5 z6 gl fz0 fz1 fz2 fz3 fz4 fz5 fz6
  obtain ⟨z0, z1, z2, z3, z4, z5, z6⟩ := cells7p PB.out.box
  have gl := blk_lt PB.out.box
  go_wp2_with fail
  have hc := rtext_any rb s3 _ PB.out.st (Nat.lt_of_le_of_lt HZ.out.2.2.2.1 HZ.out.1) (HG.out _ PB.out.gr)
  rw [← HQ3.out] at hc
  refine hc.mono ?_
  clear hc z0 z1 z2 z3 z4 z5 z6 gl
  rintro e y3 ⟨rfl, hr, hg⟩
  simp only at hr
  have hpb := PB.out.call hr hg
  obtain ⟨z0, z1, z2, z3, z4, z5, z6⟩ := cells7p hpb.box
  have gl := blk_lt hpb.box
  have fz0 := Lib.frozen_of_heap hpb.box 0
  have fz1 := Lib.frozen_of_heap hpb.box 1
  have fz2 := Lib.frozen_of_heap hpb.box 2
  have fz3 := Lib.frozen_of_heap hpb.box 3
  have fz4 := Lib.frozen_of_heap hpb.box 4
  have fz5 := Lib.frozen_of_heap hpb.box 5
  have fz6 := Lib.frozen_of_heap hpb.box 6
  have hpb2 := hpb.set 3 (.string t3)
  have PB := Lib.hid hpb2
  clear hpb hpb2 hr hg
  go_wp2_with fail
  clear z0 z1 z2 z3 z4 z5 z6 gl fz0 fz1 fz2 fz3 fz4 fz5 fz6
  obtain ⟨z0, z1, z2, z3, z4, z5, z6⟩ := cells7p PB.out.box
  have gl := blk_lt PB.out.box
  go_wp2_with fail
  have hc := rnumI_any rb s4 _ PB.out.st (Nat.lt_of_le_of_lt HZ.out.2.2.2.2.1 HZ.out.1) (HG.out _ PB.out.gr)
  rw [← HQ4.out] at hc
  refine hc.mono ?_
  clear hc z0 z1 z2 z3 z4 z5 z6 gl
  rintro e y4 ⟨rfl, hr, hg⟩
  simp only at hr
  have hpb := PB.out.call hr hg
  obtain ⟨z0, z1, z2, z3, z4, z5, z6⟩ := cells7p hpb.box
  have gl := blk_lt hpb.box
  have fz0 := Lib.frozen_of_heap hpb.box 0
  have fz1 := Lib.frozen_of_heap hpb.box 1
  have fz2 := Lib.frozen_of_heap hpb.box 2
  have fz3 := Lib.frozen_of_heap hpb.box 3
  have fz4 := Lib.frozen_of_heap hpb.box 4
  have fz5 := Lib.frozen_of_heap hpb.box 5
  have fz6 := Lib.frozen_of_heap hpb.box 6
  have hpb2 := hpb.set 4 (.int .i64 n4)
  have PB := Lib.hid hpb2
  clear hpb hpb2 hr hg
  go_wp2_with fail
  clear z0 z1 z2 z3 z4 z5 z6 gl fz0 fz1 fz2 fz3 fz4 fz5 fz6
  obtain ⟨z0, z1, z2, z3, z4, z5, z6⟩ := cells7p PB.out.box
  have gl := blk_lt PB.out.box
  go_wp2_with fail
  have hc := rlist_any rb s5 _ PB.out.st (Nat.lt_of_le_of_lt HZ.out.2.2.2.2.2.1 HZ.out.1) ((fun W hW => HG.out W (gb_trans PB.out.gr hW)))
  rw [← HQ5.out] at hc
  refine hc.mono ?_
  clear hc z0 z1 z2 z3 z4 z5 z6 gl
  rintro e y5 ⟨v5, rfl, hR5, hr, hg⟩
  simp only at hr hR5
  obtain ⟨A5, d5, ev⟩ := Kd.R_slice hR5
  subst ev
  have hR5 := Kd.R_lower hR5 PB.out.gr.size
  have hpb := PB.out.call hr hg
  have hR5 := Kd.R_set hR5 hpb.box (fun q hq => ty_ne hq _ (by decide)) 5 (.slice A5 l5.length d5)
  have HRR5 := Lib.hid hR5
  obtain ⟨z0, z1, z2, z3, z4, z5, z6⟩ := cells7p hpb.box
  have gl := blk_lt hpb.box
  have fz0 := Lib.frozen_of_heap hpb.box 0
  have fz1 := Lib.frozen_of_heap hpb.box 1
  have fz2 := Lib.frozen_of_heap hpb.box 2
  have fz3 := Lib.frozen_of_heap hpb.box 3
  have fz4 := Lib.frozen_of_heap hpb.box 4
  have fz5 := Lib.frozen_of_heap hpb.box 5
  have fz6 := Lib.frozen_of_heap hpb.box 6
  have hpb2 := hpb.set 5 (.slice A5 l5.length d5)
  have PB := Lib.hid hpb2
  clear hpb hpb2 hr hg hR5
  go_wp2_with fail
  clear z0 z1 z2 z3 z4 z5 z6 gl fz0 fz1 fz2 fz3 fz4 fz5 fz6
  obtain ⟨z0, z1, z2, z3, z4, z5, z6⟩ := cells7p PB.out.box
  have gl := blk_lt PB.out.box
  go_wp2_with fail
  have hc := rlist_any rb s6 _ PB.out.st (Nat.lt_of_le_of_lt HZ.out.2.2.2.2.2.2.1 HZ.out.1) ((fun W hW => HG.out W (gb_trans PB.out.gr hW)))
  rw [← HQ6.out] at hc
  refine hc.mono ?_
  clear hc z0 z1 z2 z3 z4 z5 z6 gl
  rintro e y6 ⟨v6, rfl, hR6, hr, hg⟩
  simp only at hr hR6
  obtain ⟨A6, d6, ev⟩ := Kd.R_slice hR6
  subst ev
  have hR6 := Kd.R_lower hR6 PB.out.gr.size
  have hpb := PB.out.call hr hg
  have hR5 := R_call HRR5.out PB.out.st hg
  have hR6 := Kd.R_set hR6 hpb.box (fun q hq => ty_ne hq _ (by decide)) 6 (.slice A6 l6.length d6)
  have hR5 := Kd.R_set hR5 hpb.box (fun q hq => ty_ne hq _ (by decide)) 6 (.slice A6 l6.length d6)
  have HRR6 := Lib.hid hR6
  have HRR5 := Lib.hid hR5
  obtain ⟨z0, z1, z2, z3, z4, z5, z6⟩ := cells7p hpb.box
  have gl := blk_lt hpb.box
  have fz0 := Lib.frozen_of_heap hpb.box 0
  have fz1 := Lib.frozen_of_heap hpb.box 1
  have fz2 := Lib.frozen_of_heap hpb.box 2
  have fz3 := Lib.frozen_of_heap hpb.box 3
  have fz4 := Lib.frozen_of_heap hpb.box 4
  have fz5 := Lib.frozen_of_heap hpb.box 5
  have fz6 := Lib.frozen_of_heap hpb.box 6
  have hpb2 := hpb.set 6 (.slice A6 l6.length d6)
  have PB := Lib.hid hpb2
  clear hpb hpb2 hr hg hR6 hR5
  go_wp2_with (first
    | refine wpList_load_row rfl (.tmp 3) 39 rfl w2.heap.size rfl 39 #[.int .i64 n0, .string t1, .string t2, .string t3, .int .i64 n4, .slice A5 l5.length d5, .slice A6 l6.length d6] (0, 0) _ PB.out.box (Tryd.underlying39) rfl (by kernel_rfl) ?_
    | refine wpList_store_row rfl (.tmp 2) (.tmp 25) 39 rfl w.heap.size rfl #[.int .i64 n0, .string t1, .string t2, .string t3, .int .i64 n4, .slice A5 l5.length d5, .slice A6 l6.length d6] rfl 39 #[.int .i64 0, .string ⟨#[]⟩, .string ⟨#[]⟩, .string ⟨#[]⟩, .int .i64 0, .slice none 0 0, .slice none 0 0] PB.out.res (by kernel_rfl) rfl (by simp [Value.oneCell']) rfl ?_)
  refine bodyPost_ret (results_row (P := Tryd.prog) (fn := Tryd.f26) (a := 2) (ty := 39) rfl _ w.heap.size rfl 39 #[.int .i64 n0, .string t1, .string t2, .string t3, .int .i64 n4, .slice A5 l5.length d5, .slice A6 l6.length d6] (0, 0) _ (setRow_heap _ _ _ _ _ _ PB.out.res) (Tryd.underlying39) rfl (by kernel_rfl)) rfl ?_
  exact ⟨_, _, rfl, R_setRow HRR5.out PB.out.res (by decide) _, R_setRow HRR6.out PB.out.res (by decide) _, (setRow_other _ _ _ _ PB.out.nr).trans PB.out.st, gb_setRow PB.out.gr (Nat.le_refl _) _⟩
end Go.Proofs.YtijfedahhgcfpaaDoor
