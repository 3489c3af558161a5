/- A disk of files that are given. -/
import Derived.Test.YtbfpmlblnfablaaDiskV
set_option linter.unusedVariables false
set_option linter.unusedSimpArgs false
namespace Go.Proofs.Ytbfpmlblnfablaa
open Go.RowKit Go.Proofs.YtbfpmlblnfablaaW.PrintWords Go.Proofs.YtbfpmlblnfablaaW.PrintLast Go.Proofs.YtbfpmlblnfablaaW.PrintMore

abbrev tFile : TypeId := 49
abbrev kFile : Kd (ByteArray × List Int) := Kd.pair Kd.string (Kd.slice 5 (Kd.int .u8))
abbrev kFiles : Kd Files := Kd.slice 49 kFile
def goodFile (x : ByteArray × List Int) : Prop := x.1.size ≤ 140737488351232 ∧ goodB x.2
def goodFiles (l : Files) : Prop := l.length * 40 ≤ 140737488351232 ∧ ∀ x ∈ l, goodFile x
set_option maxRecDepth 100000 in
theorem opens_file : Opens Try.prog 49 kFile goodFile :=
  Opens.struct Try.underlying49 (by kernel_rfl) (OpensF.cons rfl (by kernel_rfl) (Opens.string Try.underlying9) (OpensF.one rfl (by kernel_rfl) opens_bytes))
set_option maxRecDepth 100000 in
theorem opens_files : Opens Try.prog 45 kFiles goodFiles :=
  Opens.slice Try.underlying45 (by kernel_rfl) (B := 40) (by kernel_rfl) opens_file
theorem files_open {w : World} {l : Files} {A : Option Addr} {n c : Nat} (h : kFiles.K w l [.slice A n c]) : n = l.length ∧ n ≤ c ∧ Kd.C kFile w A n l := by
  obtain ⟨A', c', e, l', hr⟩ := h
  injection e with e _
  injection e with a b c
  subst a b c
  exact ⟨rfl, l', hr⟩
theorem at_file {w : World} {A : Option Addr} {n : Nat} {xs : Files} (h : Kd.C kFile w A n xs) (k : Nat) (hk : k < n) (x : ByteArray × List Int) (hx : xs[k]? = some x) : ∃ ad Ab cb, A = some ad ∧ w.cell? (ad.add (k * 2)) = some (.string x.1) ∧
    w.cell? ⟨(ad.add (k * 2)).block, (ad.add (k * 2)).off + 1, none⟩ = some (.slice Ab x.2.length cb) ∧ x.2.length ≤ cb ∧ Kd.C (Kd.int .u8) w Ab x.2.length x.2 := by
  obtain ⟨ad, c, e, _, hK, hc0⟩ := Kd.C_get h x (k : Int) (by omega) (by omega)
  rw [Int.toNat_natCast] at hK hc0
  rw [show xs.getD k x = x from by rw [List.getD_eq_getElem?_getD, hx]; rfl] at hK
  have hc : ∀ j u, c[j]? = some u → w.cell? (ad.add (k * 2 + j)) = some u := hc0
  obtain ⟨c1, c2, rfl, h1, ⟨Ab, cb, h2, l2, g2⟩⟩ := hK
  have h1' : c1 = [.string x.1] := h1
  subst h1' h2
  exact ⟨ad, Ab, cb, e, hc 0 _ rfl, by rw [← add_field _ _ 1 (by omega)]; exact hc 1 _ rfl, l2, g2⟩
/-- The files of a row of them, if these may be. -/
def ofL : Files → Files → Option Files
  | fs, [] => some fs
  | fs, x :: r => if (look fs x.1).isSome = true ∨ rightN x.1 = false ∨ 65536 < x.2.length then none else ofL (put fs x.1 x.2) r
def ofD (room : Int) (fs : Files) : D := ⟨max room 0, fs, fs, [], 0, -1, false⟩
def midD (room : Int) (fs : Files) : D := ⟨max room 0, fs, [], [], 0, -1, false⟩
/-- What Of answers: a disk, or none. -/
def OfEnd (w0 w : World) (F : Nat → Prop) (room : Int) (l : Files) (r : Ending) (w' : World) : Prop :=
  (r = .returned (.pointer none) ∧ (match ofL [] l with | some _ => 512 < l.length | none => True)) ∨ ∃ g fs, r = .returned (pt g) ∧ ofL [] l = some fs ∧ l.length ≤ 512 ∧ DiskF w0 w' F g (ofD room fs)
theorem ofL_take (x : ByteArray × List Int) : ∀ (l : Files) (fs gs : Files) (i : Nat), l[i]? = some x → ofL fs (l.take i) = some gs → ofL fs (l.take (i + 1)) = if (look gs x.1).isSome = true ∨ rightN x.1 = false ∨ 65536 < x.2.length then none else some (put gs x.1 x.2)
  | [], _, _, _, h, _ => by simp at h
  | y :: r, fs, gs, 0, h, h2 => by
    simp at h
    subst h
    simp [ofL] at h2
    subst h2
    simp [ofL]
  | y :: r, fs, gs, i + 1, h, h2 => by
    simp only [List.take_succ_cons, ofL] at h2 ⊢
    split at h2
    · cases h2
    · rename_i hn
      rw [if_neg hn]
      exact ofL_take x r _ gs i (by simpa using h) h2
theorem ofL_none : ∀ (l : Files) (fs : Files) (i : Nat), ofL fs (l.take i) = none → ofL fs l = none
  | [], fs, i, h => by simpa using h
  | y :: r, fs, 0, h => by simp [ofL] at h
  | y :: r, fs, i + 1, h => by
    simp only [List.take_succ_cons, ofL] at h ⊢
    split
    · rfl
    · rename_i hn
      rw [if_neg hn] at h
      exact ofL_none r _ i h
theorem ofL_length : ∀ (l : Files) (fs gs : Files), ofL fs l = some gs → gs.length ≤ fs.length + l.length
  | [], fs, gs, h => by simp [ofL] at h; subst h; simp
  | y :: r, fs, gs, h => by
    rw [ofL] at h
    split at h
    · cases h
    · have := ofL_length r _ gs h
      have h2 := length_put fs y.1 y.2
      rw [List.length_cons]
      omega
set_option maxRecDepth 100000 in
set_option maxHeartbeats 4000000 in
theorem of_any (room : Int) (w0 w : World) (hB : Below w0.heap.size w0 w) (F : Nat → Prop) (hF : ∀ k, F k → k < w.heap.size) (A : Option Addr) (n c : Nat) (l : Files) (hn : n = l.length) (hg : goodFiles l) (hC : Kd.C kFile w A n l) :
    Calls Try.prog 24 #[.int .i64 room, .slice A n c] w fun r w' => OfEnd w0 w F room l r w' ∧ Below w.heap.size w w' := by
  have HB := Lib.hid hB
  have HF := Lib.hid hF
  have HC := Lib.hid hC
  have HN := Lib.hid hn
  have HG := Lib.hid hg
  have hnb : n ≤ 140737488351232 := by have := hg.1; omega
  clear hB hF hC hn hg
  go_enter Try.func24, Try.ntmps24
  go_wp2_with fail
  refine (new_any room w).mono ?_
  rintro r w1 ⟨g, rfl, hD1, hB1⟩
  have HD1 := Lib.hid hD1
  have HB1 := Lib.hid hB1
  clear hD1 hB1
  go_wp2_with fail
  go_loopw [14] (fun v wr => ∃ (i : Nat) (fs : Files), v = .int .i64 (i : Int) ∧ i ≤ n ∧ ofL [] (l.take i) = some fs ∧ DiskAt wr w.heap.size g (fun k => w.heap.size ≤ k ∧ k < w1.heap.size) (midD room fs) ∧ Turns (fun k => w.heap.size ≤ k ∧ k < w1.heap.size) w1 wr) (fun v _ => n - (Lib.intOf v).toNat)
  case atStart => exact ⟨0, [], rfl, Nat.zero_le _, rfl, HD1.out, Turns.refl _ _⟩
  case round =>
    obtain ⟨i, fs, rfl, hi, hof, hD, hT⟩ := hrel
    by_cases hin : i < n
    · have d1 : (i : Int) < (n : Int) := by omega
      obtain ⟨x, hx⟩ : ∃ x, l[i]? = some x := ⟨_, List.getElem?_eq_getElem (by have := HN.out; omega)⟩
      have hBr : Below w.heap.size w wr := HB1.out.trans (hT.toBelow HB1.out.size (fun k hk => hk.1))
      obtain ⟨ad, Ab, cb, e, x0, x1, x2, x3⟩ := at_file (Kd.C_below HC.out hBr) i hin x hx
      subst e
      obtain ⟨bn, bs, vc, cs, Sc, hc, hp⟩ := hD.row
      obtain ⟨nm, hnm⟩ : ∃ s, s = x.1 := ⟨_, rfl⟩
      obtain ⟨nd, hnd⟩ : ∃ k, k = x.2.length := ⟨_, rfl⟩
      rw [← hnm] at x0
      rw [← hnd] at x1 x2 x3
      have hHR := Lib.hid (right_any nm)
      obtain ⟨rq, hrq⟩ : ∃ b, b = rightN nm := ⟨_, rfl⟩
      rw [← hrq] at hHR
      have gx := HG.out.2 x (List.mem_of_getElem? hx)
      have gnm : nm.size ≤ maxLen := by rw [hnm]; have := gx.1; unfold maxLen; omega
      have gnd : nd ≤ 140737488351232 := by rw [hnd]; have := gx.2.1; omega
      have hstep := ofL_take x l [] fs i hx hof
      rw [← hnm, ← hrq, ← hnd] at hstep
      obtain ⟨vs, hown, h2⟩ := id hp.now
      obtain ⟨hq, Ao, co, hgo, _, _⟩ := look_row h2 nm
      obtain ⟨q, hq'⟩ : ∃ q, q = (look fs nm).isSome := ⟨_, rfl⟩
      obtain ⟨lo, hlo⟩ : ∃ k, k = ((look fs nm).getD []).length := ⟨_, rfl⟩
      obtain ⟨w2, hw2⟩ : ∃ w2, w2 = wr.alloc (.cells #[.string nm, .slice Ab nd cb] tFile) := ⟨_, rfl⟩
      have hB2 : Below wr.heap.size wr w2 := by rw [hw2]; exact (Below.refl _ _).alloc (Nat.le_refl _) _
      have hb2 : w2.heap[wr.heap.size]? = some (.cells #[.string nm, .slice Ab nd cb] tFile (0, 0)) := by rw [hw2]; exact heap_alloc_new wr _
      have y0 : w2.cell? ⟨wr.heap.size, 0, none⟩ = some (.string nm) := by simpa using blk_cell hb2 0
      have y1 : w2.cell? ⟨wr.heap.size, 1, none⟩ = some (.slice Ab nd cb) := by simpa using blk_cell hb2 1
      have hc2 := (hB2.block g (blk_lt hc)).trans hc
      have yg : w2.cell? ⟨g, 1, none⟩ = some (.map (some bn)) := (cells7 hc2).2.1
      have hown2 : OwnM w2 bn vs := own_move hown (hB2.block bn (OwnM.lt hown))
      have hlk : (Instr.lookup 63 (.map (some bn)) (.string nm) true).run Try.prog w2.drew = .ok (.tuple #[.slice Ao lo co, .bool q]) w2.drew := by
        have h3 := OwnM.look_ok (w := w2.drew) (own_move (w' := w2.drew) hown2 rfl) gnm
        have hgo' : (look vs nm).getD (.slice none 0 0) = .slice Ao ((look fs nm).getD []).length co := hgo
        have hq2 : (look vs nm).isSome = (look fs nm).isSome := hq
        rw [hgo', hq2, ← hq', ← hlo] at h3
        exact h3
      rw [← hq'] at hstep
      have hgl2 := blk_lt hc2
      have hxl : wr.heap.size < w2.heap.size := blk_lt hb2
      have HDr := Lib.hid (And.intro hD (And.intro hT hBr))
      have HH2 := Lib.hid (And.intro hB2 hb2)
      have HPr := Lib.hid hp
      have HCr := Lib.hid hc
      have HVS := Lib.hid (And.intro hown2 h2)
      have HW2 := Lib.hid hw2
      have HST := Lib.hid hstep
      have HX := Lib.hid (And.intro hx (And.intro hnm (And.intro hnd hof)))
      have HCx := Lib.hid x3
      have HYS := Lib.hid (And.intro y0 (And.intro y1 yg))
      clear hD hT hBr hp hc hown h2 hq hgo hq' hlo hB2 hb2 hc2 hown2 hstep hx hnm hnd hof x3 hrq gx
      go_upto_region 5 with (fail)
      rw [← HW2.out]
      refine start_ (S := fun w' => w'.cell? ⟨wr.heap.size, 0, none⟩ = some (.string nm) ∧ w'.cell? ⟨g, 1, none⟩ = some (.map (some bn)) ∧ (Instr.lookup 63 (.map (some bn)) (.string nm) true).run Try.prog w' = .ok (.tuple #[.slice Ao lo co, .bool q]) w') (ds := [10, 11]) (n := 12) #[false, false, false, false, false, false, false, false, false, false, false, false] rfl rfl rfl ?hS0 (fun hHeld => ?hrun)
      case hS0 => exact ⟨y0, yg, hlk⟩
      case hrun =>
        refine pure_ (i := 0) (N := some 19) (v := ?_) (a' := ?_) #[true, false, false, false, false, false, false, false, false, false, false, false] rfl rfl (by kernel_rfl) (fun _ _ _ h => h) (Or.inl ⟨by rfl, ?_⟩) ?_ ?_
        rotate_left
        · intro w'
          go_simp
          first | done | with_reducible rfl
        rotate_left
        · simp only [Act.put, List.setIfInBounds_toArray, List.set_cons_zero, List.set_cons_succ, i64_w, i32_w]
          rfl
        refine pure_ (i := 1) (N := some 20) (v := ?_) (a' := ?_) #[true, true, false, false, false, false, false, false, false, false, false, false] rfl rfl (by kernel_rfl) (fun _ _ _ h => h) (Or.inl ⟨by rfl, ?_⟩) ?_ ?_
        rotate_left
        · intro w'
          go_simp
          first | done | with_reducible rfl
        rotate_left
        · simp only [Act.put, List.setIfInBounds_toArray, List.set_cons_zero, List.set_cons_succ, i64_w, i32_w]
          rfl
        refine pure_ (i := 2) (N := some 21) (v := ?_) (a' := ?_) #[true, true, true, false, false, false, false, false, false, false, false, false] rfl rfl (by kernel_rfl) (fun _ _ _ h => h) (Or.inl ⟨by rfl, ?_⟩) ?_ ?_
        rotate_left
        · intro w'
          go_simp
          first | done | with_reducible rfl
        rotate_left
        · simp only [Act.put, List.setIfInBounds_toArray, List.set_cons_zero, List.set_cons_succ, i64_w, i32_w]
          rfl
        refine take_ (i := 3) (N := some 22) (v := ?_) (a' := ?_) #[true, true, true, true, false, false, false, false, false, false, false, false] rfl rfl (by kernel_rfl) (fun _ _ _ h => h) (Or.inl ⟨by rfl, ?_⟩) hHeld ?_ ?_
        rotate_left
        · rintro w' ⟨ha, hcc, hl⟩
          go_simp
          first | done | with_reducible rfl
        rotate_left
        · simp only [Act.put, List.setIfInBounds_toArray, List.set_cons_zero, List.set_cons_succ, i64_w, i32_w]
          rfl
        refine pure_ (i := 4) (N := some 23) (v := ?_) (a' := ?_) #[true, true, true, true, true, false, false, false, false, false, false, false] rfl rfl (by kernel_rfl) (fun _ _ _ h => h) (Or.inl ⟨by rfl, ?_⟩) ?_ ?_
        rotate_left
        · intro w'
          go_simp
          first | done | with_reducible rfl
        rotate_left
        · simp only [Act.put, List.setIfInBounds_toArray, List.set_cons_zero, List.set_cons_succ, i64_w, i32_w]
          rfl
        refine take_ (i := 5) (N := some 24) (v := ?_) (a' := ?_) #[true, true, true, true, true, true, false, false, false, false, false, false] rfl rfl (by kernel_rfl) (fun _ _ _ h => h) (Or.inl ⟨by rfl, ?_⟩) hHeld ?_ ?_
        rotate_left
        · rintro w' ⟨ha, hcc, hl⟩
          go_simp
          first | done | with_reducible rfl
        rotate_left
        · simp only [Act.put, List.setIfInBounds_toArray, List.set_cons_zero, List.set_cons_succ, i64_w, i32_w]
          rfl
        refine take_ (i := 6) (N := some 25) (v := ?_) (a' := ?_) #[true, true, true, true, true, true, true, false, false, false, false, false] rfl rfl (by kernel_rfl) (fun _ _ _ h => h) (Or.inl ⟨by rfl, ?_⟩) hHeld ?_ ?_
        rotate_left
        · rintro w' ⟨ha, hcc, hl⟩
          go_simp
          first | done | with_reducible rfl
        rotate_left
        · simp only [Act.put, List.setIfInBounds_toArray, List.set_cons_zero, List.set_cons_succ, i64_w, i32_w]
          rfl
        refine pure_ (i := 7) (N := some 18) (v := ?_) (a' := ?_) #[true, true, true, true, true, true, true, true, false, false, false, false] rfl rfl (by kernel_rfl) (fun _ _ _ h => h) (Or.inl ⟨by rfl, ?_⟩) ?_ ?_
        rotate_left
        · intro w'
          go_simp
          first | done | with_reducible rfl
        rotate_left
        · simp only [Act.put, List.setIfInBounds_toArray, List.set_cons_zero, List.set_cons_succ, i64_w, i32_w]
          rfl
        refine pure_ (i := 8) (N := some 26) (v := ?_) (a' := ?_) #[true, true, true, true, true, true, true, true, true, false, false, false] rfl rfl (by kernel_rfl) (fun _ _ _ h => h) (Or.inl ⟨by rfl, ?_⟩) ?_ ?_
        rotate_left
        · intro w'
          go_simp
          first | done | with_reducible rfl
        rotate_left
        · simp only [Act.put, List.setIfInBounds_toArray, List.set_cons_zero, List.set_cons_succ, i64_w, i32_w]
          rfl
        refine pure_ (i := 9) (N := some 27) (v := ?_) (a' := ?_) #[true, true, true, true, true, true, true, true, true, true, false, false] rfl rfl (by kernel_rfl) (fun _ _ _ h => h) (Or.inl ⟨by rfl, ?_⟩) ?_ ?_
        rotate_left
        · intro w'
          go_simp
          first | done | with_reducible rfl
        rotate_left
        · simp only [Act.put, List.setIfInBounds_toArray, List.set_cons_zero, List.set_cons_succ, i64_w, i32_w]
          rfl
        refine tail_list 10 (t := [10, 11]) (fuel := 0) rfl rfl rfl (by kernel_rfl) (by decide) ?_
        clear hHeld hlk x0 x1
        cases q with
        | true =>
          have hno := HST.out.trans (if_pos (.inl rfl))
          have HNO := Lib.hid (ofL_none l [] (i + 1) hno)
          clear hno
          go_wp2_with fail
          go_ret
          refine ⟨.inl ⟨rfl, ?_⟩, ?_⟩
          · rw [HNO.out]; trivial
          · try rw [← HW2.out]
            exact ((HDr.out.2.2.trans (HH2.out.1.mono HDr.out.2.2.size))).drew
        | false =>
          go_wp2_with fail
          try rw [← HW2.out]
          refine (hHR.out w2.drew).mono ?_
          rintro r w3 ⟨rfl, hB3⟩
          have hB23 : Below w2.heap.size w2 w3 := ((Below.refl _ _).drew).trans hB3
          have z0 := (hB23.cell (p := ⟨wr.heap.size, 0, none⟩) hxl).trans HYS.out.1
          have z1 := (hB23.cell (p := ⟨wr.heap.size, 1, none⟩) hxl).trans HYS.out.2.1
          have zg := (hB23.cell (p := ⟨g, 1, none⟩) hgl2).trans HYS.out.2.2
          have hxl3 := Nat.lt_of_lt_of_le hxl hB23.size
          have hgl3 := Nat.lt_of_lt_of_le hgl2 hB23.size
          have HB23 := Lib.hid hB23
          clear hB3 hB23 y0 y1 yg
          cases rq with
          | false =>
            have hno := HST.out.trans (if_pos (.inr (.inl rfl)))
            have HNO := Lib.hid (ofL_none l [] (i + 1) hno)
            clear hno
            go_wp2_with fail
            go_ret
            refine ⟨.inl ⟨rfl, ?_⟩, ?_⟩
            · rw [HNO.out]; trivial
            · exact (HDr.out.2.2.trans (HH2.out.1.mono HDr.out.2.2.size)).trans (HB23.out.mono (by have := HDr.out.2.2.size; have := HH2.out.1.size; omega))
          | true =>
            by_cases hbig : 65536 < nd
            · have hbI : (65536 : Int) < (nd : Int) := by omega
              have hno := HST.out.trans (if_pos (.inr (.inr hbig)))
              have HNO := Lib.hid (ofL_none l [] (i + 1) hno)
              clear hno
              go_wp2_with fail
              go_ret
              refine ⟨.inl ⟨rfl, ?_⟩, ?_⟩
              · rw [HNO.out]; trivial
              · exact (HDr.out.2.2.trans (HH2.out.1.mono HDr.out.2.2.size)).trans (HB23.out.mono (by have := HDr.out.2.2.size; have := HH2.out.1.size; omega))
            · have hbI : ¬ (65536 : Int) < (nd : Int) := by omega
              have hyes := HST.out.trans (if_neg (by
                rintro (h | h | h)
                · cases h
                · cases h
                · exact hbig h))
              have HYES := Lib.hid hyes
              clear hyes hbig
              go_upto_region 8 with (fail)
              refine start_ (S := fun w' => w'.cell? ⟨wr.heap.size, 0, none⟩ = some (.string nm) ∧ w'.cell? ⟨wr.heap.size, 1, none⟩ = some (.slice Ab nd cb) ∧ w'.cell? ⟨g, 1, none⟩ = some (.map (some bn))) (ds := [9]) (n := 10) #[false, false, false, false, false, false, false, false, false, false] rfl rfl rfl ?hS0 (fun hHeld => ?hrun)
              case hS0 => exact ⟨z0, z1, zg⟩
              case hrun =>
                refine pure_ (i := 0) (N := some 41) (v := ?_) (a' := ?_) #[true, false, false, false, false, false, false, false, false, false] rfl rfl (by kernel_rfl) (fun _ _ _ h => h) (Or.inl ⟨by rfl, ?_⟩) ?_ ?_
                rotate_left
                · intro w'
                  go_simp
                  first | done | with_reducible rfl
                rotate_left
                · simp only [Act.put, List.setIfInBounds_toArray, List.set_cons_zero, List.set_cons_succ, i64_w, i32_w]
                  rfl
                refine pure_ (i := 1) (N := some 42) (v := ?_) (a' := ?_) #[true, true, false, false, false, false, false, false, false, false] rfl rfl (by kernel_rfl) (fun _ _ _ h => h) (Or.inl ⟨by rfl, ?_⟩) ?_ ?_
                rotate_left
                · intro w'
                  go_simp
                  first | done | with_reducible rfl
                rotate_left
                · simp only [Act.put, List.setIfInBounds_toArray, List.set_cons_zero, List.set_cons_succ, i64_w, i32_w]
                  rfl
                refine pure_ (i := 2) (N := some 43) (v := ?_) (a' := ?_) #[true, true, true, false, false, false, false, false, false, false] rfl rfl (by kernel_rfl) (fun _ _ _ h => h) (Or.inl ⟨by rfl, ?_⟩) ?_ ?_
                rotate_left
                · intro w'
                  go_simp
                  first | done | with_reducible rfl
                rotate_left
                · simp only [Act.put, List.setIfInBounds_toArray, List.set_cons_zero, List.set_cons_succ, i64_w, i32_w]
                  rfl
                refine take_ (i := 3) (N := some 44) (v := ?_) (a' := ?_) #[true, true, true, true, false, false, false, false, false, false] rfl rfl (by kernel_rfl) (fun _ _ _ h => h) (Or.inl ⟨by rfl, ?_⟩) hHeld ?_ ?_
                rotate_left
                · rintro w' ⟨ha, hb, hcc⟩
                  go_simp
                  first | done | with_reducible rfl
                rotate_left
                · simp only [Act.put, List.setIfInBounds_toArray, List.set_cons_zero, List.set_cons_succ, i64_w, i32_w]
                  rfl
                refine pure_ (i := 4) (N := some 45) (v := ?_) (a' := ?_) #[true, true, true, true, true, false, false, false, false, false] rfl rfl (by kernel_rfl) (fun _ _ _ h => h) (Or.inl ⟨by rfl, ?_⟩) ?_ ?_
                rotate_left
                · intro w'
                  go_simp
                  first | done | with_reducible rfl
                rotate_left
                · simp only [Act.put, List.setIfInBounds_toArray, List.set_cons_zero, List.set_cons_succ, i64_w, i32_w]
                  rfl
                refine take_ (i := 5) (N := some 46) (v := ?_) (a' := ?_) #[true, true, true, true, true, true, false, false, false, false] rfl rfl (by kernel_rfl) (fun _ _ _ h => h) (Or.inl ⟨by rfl, ?_⟩) hHeld ?_ ?_
                rotate_left
                · rintro w' ⟨ha, hb, hcc⟩
                  go_simp
                  first | done | with_reducible rfl
                rotate_left
                · simp only [Act.put, List.setIfInBounds_toArray, List.set_cons_zero, List.set_cons_succ, i64_w, i32_w]
                  rfl
                refine pure_ (i := 6) (N := some 47) (v := ?_) (a' := ?_) #[true, true, true, true, true, true, true, false, false, false] rfl rfl (by kernel_rfl) (fun _ _ _ h => h) (Or.inl ⟨by rfl, ?_⟩) ?_ ?_
                rotate_left
                · intro w'
                  go_simp
                  first | done | with_reducible rfl
                rotate_left
                · simp only [Act.put, List.setIfInBounds_toArray, List.set_cons_zero, List.set_cons_succ, i64_w, i32_w]
                  rfl
                refine take_ (i := 7) (N := some 48) (v := ?_) (a' := ?_) #[true, true, true, true, true, true, true, true, false, false] rfl rfl (by kernel_rfl) (fun _ _ _ h => h) (Or.inl ⟨by rfl, ?_⟩) hHeld ?_ ?_
                rotate_left
                · rintro w' ⟨ha, hb, hcc⟩
                  go_simp
                  first | done | with_reducible rfl
                rotate_left
                · simp only [Act.put, List.setIfInBounds_toArray, List.set_cons_zero, List.set_cons_succ, i64_w, i32_w]
                  rfl
                refine one_ (i := 8) (N := some 49) #[true, true, true, true, true, true, true, true, true, false] rfl rfl (by kernel_rfl) (by decide) (fun K hK => ?_)
                refine goes_ Try.func32 (by kernel_rfl) rfl #[.slice Ab nd cb] (by rfl) rfl rfl (by (try simp only [List.map_toArray, List.map_cons, List.map_nil]); first | done | rfl) ?_
                have hBr3 : Below wr.heap.size wr w3 := HH2.out.1.trans (HB23.out.mono HH2.out.1.size)
                have hcl := clone_any Ab cb x.2 w3.drew (Kd.C_drew (by have h := Kd.C_below HCx.out hBr3; rw [HX.out.2.2.1] at h; exact h)) (by rw [← HX.out.2.2.1]; exact x2) (by rw [← HX.out.2.2.1]; omega)
                rw [← HX.out.2.2.1] at hcl
                refine hcl.mono ?_
                rintro r w9 ⟨v, rfl, hR, hB⟩
                have HR9 := Lib.hid hR
                have hB39 : Below w3.heap.size w3 w9 := ((Below.refl _ _).drew).trans hB
                have HB39 := Lib.hid hB39
                obtain ⟨A9, c9, e9⟩ := Kd.R_slice hR
                rw [← HX.out.2.2.1] at e9
                subst e9
                clear hR hB hcl hHeld
                refine ⟨_, rfl, ?_⟩
                refine hK.out _ _ ⟨(hB39.cell (p := ⟨wr.heap.size, 0, none⟩) hxl3).trans z0, (hB39.cell (p := ⟨wr.heap.size, 1, none⟩) hxl3).trans z1, (hB39.cell (p := ⟨g, 1, none⟩) hgl3).trans zg⟩ (fun hHeld1 => ?_)
                clear hK K
                refine norm_ (a' := ?_) ?_ ?_
                rotate_left
                · show Act.put _ (some 49) _ = _
                  simp only [Act.put, List.setIfInBounds_toArray, List.set_cons_zero, List.set_cons_succ, i64_w, i32_w]
                  rfl
                refine tail_list 9 (t := [9]) (fuel := 0) rfl rfl rfl (by kernel_rfl) (by decide) ?_
                have hB29 : Below w2.heap.size w2 w9 := HB23.out.trans (HB39.out.mono HB23.out.size)
                have hBr9 : Below wr.heap.size wr w9 := HH2.out.1.trans (hB29.mono HH2.out.1.size)
                have hown9 : OwnM w9 bn vs := own_move HVS.out.1 (hB29.block bn (OwnM.lt HVS.out.1))
                have hvl : vs.length < maxLen := by
                  have h1 := HVS.out.2.length
                  have h2 := ofL_length (l.take i) [] fs HX.out.2.2.2
                  have h3 : (l.take i).length ≤ l.length := by rw [List.length_take]; omega
                  have h4 := HN.out
                  have h5 : ([] : Files).length = 0 := rfl
                  have h6 : (midD room fs).now.length = fs.length := rfl
                  unfold maxLen
                  omega
                have HBr9 := Lib.hid hBr9
                clear hB29 hBr9
                refine wp_update w9 rfl _ _ _ rfl hown9 nm gnm hvl A9 nd c9 rfl rfl rfl ?_
                intro w10 ho10 ht10
                go_wp2_with fail
                have hp9 := HPr.out.below HBr9.out
                have hSlt : ∀ k, (w.heap.size ≤ k ∧ k < w1.heap.size) → k < wr.heap.size := fun k hk => (HDr.out.1.lt k hk).1
                have htx : TextAt w9 (fun k => w.heap.size ≤ k ∧ k < w1.heap.size) (.slice A9 nd c9) x.2 := TextAt.made HR9.out (fun k hk => by
                  have := hSlt k hk
                  have h1 := HH2.out.1.size
                  have h2 := HB23.out.size
                  show k < w3.heap.size
                  omega)
                have h29 : All2 (FileRow w9 (fun k => w.heap.size ≤ k ∧ k < w1.heap.size)) vs fs := HVS.out.2.imp (fun _ _ h => h.step (Turns.of_below HBr9.out _) (fun _ h => .inl h))
                have hm10 : MapAt w10 (fun k => w.heap.size ≤ k ∧ k < w1.heap.size) bn (put fs nm x.2) := hp9.now.write hp9.sn h29 htx ho10 ht10
                have hp10 := hp9.mapped ht10 hm10
                have hc9 := (HBr9.out.block g (blk_lt HCr.out)).trans HCr.out
                have hc10 : DiskCells w10 g (midD room (put fs nm x.2)) bn bs vc := (ht10.grown.block g (blk_lt hc9) (fun e => hp10.ne.2.1 (by cases e; rfl))).trans hc9
                have hT10 : Turns (fun k => w.heap.size ≤ k ∧ k < w1.heap.size) w1 w10 := (HDr.out.2.1.below HBr9.out).turned ht10 (.inl hp10.sn)
                have hz : wr.heap.size ≤ w10.heap.size := Nat.le_trans HBr9.out.size ht10.grown.size
                have hD10 : DiskAt w10 w.heap.size g (fun k => w.heap.size ≤ k ∧ k < w1.heap.size) (midD room (put fs nm x.2)) := ⟨⟨bn, bs, vc, cs, Sc, hc10, hp10⟩, fun k hk => ⟨by have := hSlt k hk; omega, hk.1⟩, HDr.out.1.own⟩
                have HEND := Lib.hid (And.intro hD10 hT10)
                clear hD10 hT10 hp10 hc10 hm10 hp9 hc9 h29 htx ho10 ht10 hown9
                go_roundw
                case rel => exact ⟨i + 1, put fs nm x.2, by simp, by omega, HYES.out, HEND.out.1, HEND.out.2⟩
                case measure => simp [Lib.intOf]; omega
    · have hie : i = n := by omega
      have d1 : ¬ (i : Int) < (n : Int) := by omega
      have hall : ofL [] l = some fs := by
        have h := hof
        rw [hie, HN.out, List.take_length] at h
        exact h
      have HALL := Lib.hid hall
      have HDr := Lib.hid (And.intro hD hT)
      obtain ⟨bn, bs, vc, cs, Sc, hc, hp⟩ := hD.row
      obtain ⟨vs, hown, h2⟩ := id hp.now
      obtain ⟨_, c1, c2, _, _, _, _⟩ := cells7 hc
      have q2 := blk_frozen hc 2
      have hgl := blk_lt hc
      have HCr := Lib.hid hc
      have HPr := Lib.hid hp
      have HVS := Lib.hid (And.intro hown h2)
      have hBr : Below w.heap.size w wr := HB1.out.trans (hT.toBelow HB1.out.size (fun k hk => hk.1))
      have HBr := Lib.hid hBr
      clear hD hT hc hp hown h2 hall hof hBr hi
      by_cases h512 : 512 < n
      · have h5I : (512 : Int) < (n : Int) := by omega
        go_wp2_with fail
        go_ret
        refine ⟨.inl ⟨rfl, ?_⟩, HBr.out⟩
        rw [HALL.out]
        show 512 < l.length
        rw [← HN.out]
        exact h512
      · have h5I : ¬ (512 : Int) < (n : Int) := by omega
        go_wp2_with fail
        refine (clone_map wr bn vs HVS.out.1).mono ?_
        rintro r w3 ⟨rfl, ho3, hB3⟩
        have hc3 := (hB3.block g hgl).trans HCr.out
        have HC3 := Lib.hid hc3
        obtain ⟨_, _, c2', _, _, _, _⟩ := cells7 hc3
        have q2' := blk_frozen hc3 2
        have hg3 := blk_lt hc3
        have HO3 := Lib.hid ho3
        have HB3 := Lib.hid hB3
        clear ho3 hB3 hc3 c1 c2 q2
        go_wp2_with fail
        go_ret
        show OfEnd w0 w F room l (.returned (pt g)) _ ∧ _
        obtain ⟨w4, hw4⟩ : ∃ w4, w4 = w3.setCell ⟨g, 2, none⟩ (.map (some wr.heap.size)) := ⟨_, rfl⟩
        rw [← hw4]
        have hp := HPr.out
        have hD := HDr.out.1
        have hz := HB3.out.size
        have h1r := HDr.out.2.size
        have hlt3 := OwnM.lt HO3.out
        have hzz : w4.heap.size = w3.heap.size := by rw [hw4]; simp [World.setCell]
        have kT : Turns (fun k => k = g) w3 w4 := by
          rw [hw4]
          exact (Turns.refl (fun k => k = g) w3).set (p := ⟨g, 2, none⟩) (.inl rfl) _
        have kT2 : Turns (fun k => k = g) wr w4 := (Turns.of_below HB3.out (fun k => k = g)).trans kT (fun _ h => .inl h)
        have hgS : ∀ i, i = g → (w.heap.size ≤ i ∧ i < w1.heap.size) := fun i e => by subst e; exact hD.own
        have hsub : ∀ i, ((w.heap.size ≤ i ∧ i < w1.heap.size) ∨ i = wr.heap.size) → (w.heap.size ≤ i ∧ i < w1.heap.size) ∨ wr.heap.size ≤ i := fun i hi => by
          rcases hi with h | h
          · exact .inl h
          · exact .inr (by omega)
        have hww : Below w.heap.size w w4 := by
          have h3 : Below w.heap.size w w3 := HBr.out.trans (HB3.out.mono HBr.out.size)
          exact ((Turns.of_below h3 (fun k => k = g)).trans kT (fun _ h => .inl h)).toBelow (Nat.le_refl _) (fun i e => (hgS i e).1)
        refine ⟨.inr ⟨g, fs, rfl, HALL.out, by rw [← HN.out]; omega, ⟨HB.out.trans (hww.mono HB.out.size), fun k => (w.heap.size ≤ k ∧ k < w1.heap.size) ∨ k = wr.heap.size, ⟨⟨bn, wr.heap.size, vc, cs, Sc, ?_, ⟨?_, ?_, ?_, ?_, ?_, ?_, ?_, ?_⟩⟩, ?_, ?_⟩, ?_⟩⟩, hww⟩
        · have hc3 := HC3.out
          unfold DiskCells
          rw [hw4, blk_set hc3 2]
          rfl
        · exact hp.now.step kT2 (fun e => hp.ne.2.1 e.symm) hgS hsub
        · refine (MapAt.cloned (S' := fun k => (w.heap.size ≤ k ∧ k < w1.heap.size) ∨ k = wr.heap.size) HVS.out.2 HB3.out HO3.out hsub).step kT (fun e => ?_) (fun i e => .inl (hgS i e)) (fun _ h => .inl h)
          omega
        · exact Kd.R_lower (Kd.R_step hp.row (fun i hi hl => kT2.block i hl (fun e => (hp.sc i hi).2.1 e))) HB.out.size
        · exact hp.fns.imp (fun _ _ h => h.step (kT2.mono (fun i e => .inl (hgS i e))) hsub)
        · exact fun k hk => ⟨.inl (hp.sc k hk).1, (hp.sc k hk).2.1, (hp.sc k hk).2.2.1, fun e => by have := (hD.lt k (hp.sc k hk).1).1; omega⟩
        · exact .inl hp.sn
        · exact .inr rfl
        · have := hp.now.lt
          exact ⟨by omega, hp.ne.2.1, by omega⟩
        · intro j hj
          rw [hzz]
          have hw0 := HB.out.size
          have hw1 := HB1.out.size
          rcases (show (w.heap.size ≤ j ∧ j < w1.heap.size) ∨ j = wr.heap.size from hj) with h | h
          · have h2 := (hD.lt j h).1
            have h3 := h.1
            exact ⟨by omega, by omega⟩
          · exact ⟨by omega, by omega⟩
        · exact .inl hD.own
        · intro k hk
          have := HF.out k hk
          have hw1 := HB1.out.size
          refine ⟨by omega, fun hS => ?_⟩
          rcases (show (w.heap.size ≤ k ∧ k < w1.heap.size) ∨ k = wr.heap.size from hS) with h | h
          · omega
          · omega
end Go.Proofs.Ytbfpmlblnfablaa
