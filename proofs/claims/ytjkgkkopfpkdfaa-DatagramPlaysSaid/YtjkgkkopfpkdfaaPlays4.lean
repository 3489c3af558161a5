/- DatagramPlays: the reference's Take where there is none, and its Double. -/
import Derived.Test.YtjkgkkopfpkdfaaPlays3
set_option linter.unusedVariables false
set_option linter.unusedSimpArgs false
namespace Go.Proofs.Ytjkgkkopfpkdfaa
open Go.RowKit Go.Conc Go.Proofs.YtjkgkkopfpkdfaaW.PrintWords Go.Proofs.YtjkgkkopfpkdfaaW.PrintLast

set_option maxHeartbeats 1000000 in
theorem refTake_out (n : Int) (rb : Nat) (L : List Pkt) (w : World) (hn : RefOk w rb L) (hout : ¬ (0 ≤ n ∧ n < L.length)) :
    Calls Try.prog 11 #[.pointer (some ⟨rb, 0, none⟩), .int .i64 n] w fun e w' =>
      e = .returned (.tuple #[.agg #[.int .i64 0, .int .i64 0, .slice none 0 0], .bool false]) ∧ Below w.heap.size w w' := by
  obtain ⟨v, hb, hR⟩ := hn
  obtain ⟨AL, cL, rfl⟩ := Kd.R_slice hR
  obtain ⟨r0, _⟩ := cells1 hb
  have hlt := blk_lt hb
  clear hR hb
  have hob := blk_new w (.cells #[.int .i64 0, .int .i64 0, .slice none 0 0] 33)
  obtain ⟨o0, o1, o2, f0, f1, f2⟩ := cells3 hob
  have HB := Lib.hid (((Below.refl w.heap.size w).alloc (Nat.le_refl _) (.cells #[.int .i64 0, .int .i64 0, .slice none 0 0] 33)))
  clear hob
  go_enter Try.func11, Try.ntmps11
  by_cases h0 : n < 0
  · have d1 : decide (n < 0) = true := decide_eq_true h0
    go_wp2_with fail
    exact bodyPost_ret (v := .tuple #[.agg #[.int .i64 0, .int .i64 0, .slice none 0 0], .bool false]) (by simp [results, Try.results11, go_sem, o0, o1, o2, f0, f1, f2]) rfl ⟨rfl, HB.out⟩
  · have d1 : decide (n < 0) = false := decide_eq_false h0
    have d2 : decide ((L.length : Int) ≤ n) = true := decide_eq_true (by omega)
    go_wp2_with fail
    exact bodyPost_ret (v := .tuple #[.agg #[.int .i64 0, .int .i64 0, .slice none 0 0], .bool false]) (by simp [results, Try.results11, go_sem, o0, o1, o2, f0, f1, f2]) rfl ⟨rfl, HB.out⟩

set_option maxHeartbeats 1000000 in
theorem refDouble_out (n : Int) (rb : Nat) (L : List Pkt) (w : World) (hn : RefOk w rb L) (hout : ¬ (0 ≤ n ∧ n < L.length ∧ L.length < 256)) :
    Calls Try.prog 14 #[.pointer (some ⟨rb, 0, none⟩), .int .i64 n] w fun e w' => e = .returned (.bool false) ∧ w = w' := by
  obtain ⟨v, hb, hR⟩ := hn
  obtain ⟨AL, cL, rfl⟩ := Kd.R_slice hR
  obtain ⟨r0, _⟩ := cells1 hb
  have hlt := blk_lt hb
  clear hR hb
  go_enter Try.func14, Try.ntmps14
  by_cases h0 : n < 0
  · have d1 : decide (n < 0) = true := decide_eq_true h0
    go_wp2_with fail
    go_ret
    exact ⟨rfl, rfl⟩
  · have d1 : decide (n < 0) = false := decide_eq_false h0
    by_cases h1 : n < L.length
    · have d2 : decide ((L.length : Int) ≤ n) = false := decide_eq_false (by omega)
      have d3 : decide ((256 : Int) ≤ (L.length : Int)) = true := decide_eq_true (by omega)
      go_wp2_with fail
      go_ret
      exact ⟨rfl, rfl⟩
    · have d2 : decide ((L.length : Int) ≤ n) = true := decide_eq_true (by omega)
      go_wp2_with fail
      go_ret
      exact ⟨rfl, rfl⟩

theorem keep_four {w w' : World} {p q r s : Addr} {a b c d : Value} (h : w.cell? p = some a ∧ w.cell? q = some b ∧ w.cell? r = some c ∧ w.cell? s = some d) (hB : Below w.heap.size w w') :
    w'.cell? p = some a ∧ w'.cell? q = some b ∧ w'.cell? r = some c ∧ w'.cell? s = some d := ⟨pw_cell_below hB h.1, pw_cell_below hB h.2.1, pw_cell_below hB h.2.2.1, pw_cell_below hB h.2.2.2⟩

/-- An element alone, as a row. -/
theorem elem_row {w : World} {base bp : Nat} {ok : Nat → Prop} {sv : Value} {p : Pkt} (hb : w.heap[bp]? = some (.cells #[.int .i64 p.f, .int .i64 p.t, sv] 33 (0, 0))) (hR : Kd.R (Kd.int .u8) 5 w base ok sv p.d) :
    ReadsRow (kPkt.M w base ok) 3 w (some ⟨bp, 0, none⟩) 1 [p] := by
  obtain ⟨c0, c1, c2, _⟩ := cells3 hb
  refine ⟨rfl, by omega, fun _ => ⟨_, rfl, fun j q hj => ?_⟩⟩
  obtain ⟨rfl, rfl⟩ : j = 0 ∧ q = p := by
    cases j with
    | zero => exact ⟨rfl, (Option.some.inj hj).symm⟩
    | succ j => simp at hj
  refine ⟨[.int .i64 q.f, .int .i64 q.t, sv], rfl, kPkt_mkM q hR, fun i u hu => ?_⟩
  rw [add_plain]
  match i, hu with
  | 0, hu => cases hu; exact c0
  | 1, hu => cases hu; exact c1
  | 2, hu => cases hu; exact c2

theorem empty_row {w : World} {base : Nat} (hb : base ≤ w.heap.size) : Kd.R kPkt 33 (w.alloc (.cells #[] 33)) base (fun _ => True) (.slice (some ⟨w.heap.size, 0, none⟩) 0 0) [] :=
  ⟨fun _ _ => trivial, [], World.ownsRow_made (base := base) (e := 33) (size := 3) w #[] 0 hb (by decide) rfl, rfl, fun j p hj => by simp at hj⟩

set_option maxHeartbeats 4000000 in
theorem refDouble_in (n : Nat) (p : Pkt) (rb : Nat) (L : List Pkt) (w : World) (hn : RefOk w rb L) (hL : L.length < 256) (hp : L[n]? = some p) :
    Calls Try.prog 14 #[.pointer (some ⟨rb, 0, none⟩), .int .i64 n] w fun e w' =>
      e = .returned (.bool true) ∧ RefOk w' rb (L ++ [p]) ∧ w.grownBy w' (some rb) := by
  have hnl : n < L.length := (List.getElem?_eq_some_iff.1 hp).1
  obtain ⟨v, hb, hR⟩ := hn
  obtain ⟨g, cap, rfl, hgb, hgl, _⟩ := Kd.R_form hR (by omega)
  obtain ⟨_, hcap, _⟩ := Kd.R_reads' hR
  obtain ⟨A2, c2, x0, x1, x2, l2, hC2⟩ := at_PktR hR n p hp
  obtain ⟨r0, _⟩ := cells1 hb
  have hlt := blk_lt hb
  have hS := And.intro r0 (And.intro x0 (And.intro x1 x2))
  have HC2 := Lib.hid (Kd.R_mono (ok' := fun k => k < w.heap.size) (Kd.R_bound hC2) (fun k hk => hk.2.2.1))
  have HR := Lib.hid (Kd.R_mono (ok' := fun k => k < w.heap.size) (Kd.R_bound hR) (fun k hk => hk.2.2.1))
  have HBB := Lib.hid hb
  clear hC2 hR hb
  have d1 : decide ((n : Int) < 0) = false := decide_eq_false (by omega)
  have d2 : decide ((L.length : Int) ≤ (n : Int)) = false := decide_eq_false (by omega)
  have d5 : decide (L.length ≤ n) = false := decide_eq_false (by omega)
  have d6 : decide ((256 : Int) ≤ (L.length : Int)) = false := decide_eq_false (by omega)
  have d3 : (n : Int) < (L.length : Int) := by omega
  have d4 : (0 : Int) ≤ (n : Int) := by omega
  go_enter Try.func14, Try.ntmps14
  go_upto_region 3 with (fail)
  have hD : Below w.heap.size w w.drew := (Below.refl w.heap.size w).drew
  refine start_ (S := fun w' => w'.cell? ⟨rb, 0, none⟩ = some (.slice (some ⟨g, 0, none⟩) L.length cap) ∧ w'.cell? ⟨g, n * 3, none⟩ = some (.int .i64 p.f) ∧ w'.cell? ⟨g, n * 3 + 1, none⟩ = some (.int .i64 p.t) ∧ w'.cell? ⟨g, n * 3 + 2, none⟩ = some (.slice A2 p.d.length c2)) (ds := [15, 16, 17, 18]) (n := 19) #[false, false, false, false, false, false, false, false, false, false, false, false, false, false, false, false, false, false, false] rfl rfl rfl ?hS0 (fun hHeld => ?hrun)
  case hS0 => exact hS
  case hrun =>
    refine pure_ (i := 0) (N := some 24) (v := ?_) (a' := ?_) #[true, false, false, false, false, false, false, false, false, false, false, false, false, false, false, false, false, false, false] rfl rfl (by kernel_rfl) (fun _ _ _ h => h) (Or.inl ⟨by rfl, ?_⟩) ?_ ?_
    rotate_left
    · intro w'
      go_simp
      with_reducible rfl
    rotate_left
    · simp only [Act.put, List.setIfInBounds_toArray, List.set_cons_zero, List.set_cons_succ, i64_w, i32_w]
      rfl
    refine pure_ (i := 2) (N := some 26) (v := ?_) (a' := ?_) #[true, false, true, false, false, false, false, false, false, false, false, false, false, false, false, false, false, false, false] rfl rfl (by kernel_rfl) (fun _ _ _ h => h) (Or.inl ⟨by rfl, ?_⟩) ?_ ?_
    rotate_left
    · intro w'
      go_simp
      with_reducible rfl
    rotate_left
    · simp only [Act.put, List.setIfInBounds_toArray, List.set_cons_zero, List.set_cons_succ, i64_w, i32_w]
      rfl
    refine pure_ (i := 3) (N := some 27) (v := ?_) (a' := ?_) #[true, false, true, true, false, false, false, false, false, false, false, false, false, false, false, false, false, false, false] rfl rfl (by kernel_rfl) (fun _ _ _ h => h) (Or.inl ⟨by rfl, ?_⟩) ?_ ?_
    rotate_left
    · intro w'
      go_simp
      with_reducible rfl
    rotate_left
    · simp only [Act.put, List.setIfInBounds_toArray, List.set_cons_zero, List.set_cons_succ, i64_w, i32_w]
      rfl
    refine pure_ (i := 4) (N := some 28) (v := ?_) (a' := ?_) #[true, false, true, true, true, false, false, false, false, false, false, false, false, false, false, false, false, false, false] rfl rfl (by kernel_rfl) (fun _ _ _ h => h) (Or.inl ⟨by rfl, ?_⟩) ?_ ?_
    rotate_left
    · intro w'
      go_simp
      with_reducible rfl
    rotate_left
    · simp only [Act.put, List.setIfInBounds_toArray, List.set_cons_zero, List.set_cons_succ, i64_w, i32_w]
      rfl
    refine take_ (i := 5) (N := some 29) (v := ?_) (a' := ?_) #[true, false, true, true, true, true, false, false, false, false, false, false, false, false, false, false, false, false, false] rfl rfl (by kernel_rfl) (fun _ _ _ h => h) (Or.inl ⟨by rfl, ?_⟩) hHeld ?_ ?_
    rotate_left
    · rintro w' ⟨s0, s1, s2, s3⟩
      go_simp
      with_reducible rfl
    rotate_left
    · simp only [Act.put, List.setIfInBounds_toArray, List.set_cons_zero, List.set_cons_succ, i64_w, i32_w]
      rfl
    refine pure_ (i := 7) (N := some 31) (v := ?_) (a' := ?_) #[true, false, true, true, true, true, false, true, false, false, false, false, false, false, false, false, false, false, false] rfl rfl (by kernel_rfl) (fun _ _ _ h => h) (Or.inl ⟨by rfl, ?_⟩) ?_ ?_
    rotate_left
    · intro w'
      go_simp
      with_reducible rfl
    rotate_left
    · simp only [Act.put, List.setIfInBounds_toArray, List.set_cons_zero, List.set_cons_succ, i64_w, i32_w]
      rfl
    refine pure_ (i := 8) (N := some 32) (v := ?_) (a' := ?_) #[true, false, true, true, true, true, false, true, true, false, false, false, false, false, false, false, false, false, false] rfl rfl (by kernel_rfl) (fun _ _ _ h => h) (Or.inl ⟨by rfl, ?_⟩) ?_ ?_
    rotate_left
    · intro w'
      go_simp
      with_reducible rfl
    rotate_left
    · simp only [Act.put, List.setIfInBounds_toArray, List.set_cons_zero, List.set_cons_succ, i64_w, i32_w]
      rfl
    refine pure_ (i := 9) (N := some 33) (v := ?_) (a' := ?_) #[true, false, true, true, true, true, false, true, true, true, false, false, false, false, false, false, false, false, false] rfl rfl (by kernel_rfl) (fun _ _ _ h => h) (Or.inl ⟨by rfl, ?_⟩) ?_ ?_
    rotate_left
    · intro w'
      go_simp
      with_reducible rfl
    rotate_left
    · simp only [Act.put, List.setIfInBounds_toArray, List.set_cons_zero, List.set_cons_succ, i64_w, i32_w]
      rfl
    refine take_ (i := 10) (N := some 34) (v := ?_) (a' := ?_) #[true, false, true, true, true, true, false, true, true, true, true, false, false, false, false, false, false, false, false] rfl rfl (by kernel_rfl) (fun _ _ _ h => h) (Or.inl ⟨by rfl, ?_⟩) hHeld ?_ ?_
    rotate_left
    · rintro w' ⟨s0, s1, s2, s3⟩
      go_simp
      with_reducible rfl
    rotate_left
    · simp only [Act.put, List.setIfInBounds_toArray, List.set_cons_zero, List.set_cons_succ, i64_w, i32_w]
      rfl
    refine pure_ (i := 11) (N := some 35) (v := ?_) (a' := ?_) #[true, false, true, true, true, true, false, true, true, true, true, true, false, false, false, false, false, false, false] rfl rfl (by kernel_rfl) (fun _ _ _ h => h) (Or.inl ⟨by rfl, ?_⟩) ?_ ?_
    rotate_left
    · intro w'
      go_simp
      with_reducible rfl
    rotate_left
    · simp only [Act.put, List.setIfInBounds_toArray, List.set_cons_zero, List.set_cons_succ, i64_w, i32_w]
      rfl
    refine pure_ (i := 12) (N := some 36) (v := ?_) (a' := ?_) #[true, false, true, true, true, true, false, true, true, true, true, true, true, false, false, false, false, false, false] rfl rfl (by kernel_rfl) (fun _ _ _ h => h) (Or.inl ⟨by rfl, ?_⟩) ?_ ?_
    rotate_left
    · intro w'
      go_simp
      with_reducible rfl
    rotate_left
    · simp only [Act.put, List.setIfInBounds_toArray, List.set_cons_zero, List.set_cons_succ, i64_w, i32_w]
      rfl
    refine take_ (i := 13) (N := some 37) (v := ?_) (a' := ?_) #[true, false, true, true, true, true, false, true, true, true, true, true, true, true, false, false, false, false, false] rfl rfl (by kernel_rfl) (fun _ _ _ h => h) (Or.inl ⟨by rfl, ?_⟩) hHeld ?_ ?_
    rotate_left
    · rintro w' ⟨s0, s1, s2, s3⟩
      go_simp
      with_reducible rfl
    rotate_left
    · simp only [Act.put, List.setIfInBounds_toArray, List.set_cons_zero, List.set_cons_succ, i64_w, i32_w]
      rfl
    refine two_ (i := 1) (j := 14) (Ni := some 25) (Nj := some 38) #[true, true, true, true, true, true, false, true, true, true, true, true, true, true, false, false, false, false, false] #[true, false, true, true, true, true, false, true, true, true, true, true, true, true, true, false, false, false, false] rfl rfl rfl rfl (by kernel_rfl) (by decide) (by decide) (fun K hK => ?_) (fun K hK => ?_)
    · skip
      refine value_ (by rfl) rfl (by go_simp; first | rfl | exact ⟨rfl, rfl⟩) ?_
      have HE0 := Lib.hid (show Kd.R kPkt 33 ((w.alloc (.cells #[] 33)).drew) (rb + 1) (fun _ => True) (.slice (some ⟨w.heap.size, 0, none⟩) 0 0) [] from Kd.R_drew (empty_row (by omega)))
      have hW1 : Below w.heap.size w (w.alloc (.cells #[] 33)).drew := ((Below.refl w.heap.size w).alloc (Nat.le_refl _) _).drew
      refine hK.out _ _ (keep_four hS hW1) (fun hHeld1 => ?_)
      clear hK K
      refine norm_ (a' := ?_) ?_ ?_
      rotate_left
      · show Act.put _ (some 25) _ = _
        simp only [Act.put, List.setIfInBounds_toArray, List.set_cons_zero, List.set_cons_succ, i64_w, i32_w]
        rfl
      refine two_ (i := 6) (j := 14) (Ni := some 30) (Nj := some 38) #[true, true, true, true, true, true, true, true, true, true, true, true, true, true, false, false, false, false, false] #[true, true, true, true, true, true, false, true, true, true, true, true, true, true, true, false, false, false, false] rfl rfl rfl rfl (by kernel_rfl) (by decide) (by decide) (fun K hK => ?_) (fun K hK => ?_)
      · skip
        refine Kd.R_append_rows_step (w0 := ((w.alloc (.cells #[] 33)).drew)) kPkt (Rr := kPkt.M ((w.alloc (.cells #[] 33)).drew) (rb + 1) (fun k => k < w.heap.size)) (rb + 1) (by rfl) _ _ 27 33 (.agg #[.int .i64 0, .int .i64 0, .slice none 0 0]) 40 (by rfl) Try.underlying27 infoPkt rfl (by decide) (by decide) (.slice (some ⟨w.heap.size, 0, none⟩) 0 0) [] L (some ⟨g, 0, none⟩) L.length cap (fun _ => True) (fun k => k < w.heap.size) (by rfl) (by rfl) ?hoa ?hra (fun x cs h => h) (fun k hk => ⟨trivial, fun e => by simp [Value.ownBlock] at e; omega⟩) (fun _ _ => trivial) ?hba ?hbasea ?hla ?hka
        case hoa => exact HE0.out
        case hra => exact (kPkt_M_of HR.out rfl).imp_ hW1 (fun p c hp => kPkt.M_move (fun k hk => hW1.block k hk) hp)
        case hba => exact Below.refl _ _
        case hbasea => simp; omega
        case hla => simp; omega
        intro v1 w1 hR1 hB1 hg1 hat1
        rw [List.nil_append] at hR1
        have hgw := gb_to_below (gb_trans (gb_below hW1 (some (w.heap.size))) hg1) (Nat.le_refl _) (fun k e => by have := Option.some.inj e; omega)
        have hz1 := hgw.size
        obtain ⟨A1, c1, rfl⟩ := Kd.R_slice hR1
        have hown1 : ∀ k, k < w.heap.size → some k ≠ (Value.slice A1 L.length c1).ownBlock := by
          intro k hk e
          rcases hat1 with h | ⟨b, h, hb⟩
          · rw [h] at e; simp [Value.ownBlock] at e; omega
          · rw [h] at e; have := Option.some.inj e; simp at hb; omega
        have HR1 := Lib.hid (show Kd.R kPkt 33 w1 (rb + 1) (fun _ => True) (.slice A1 L.length c1) L from hR1)
        have HGW := Lib.hid (show Below w.heap.size w w1 from hgw)
        have HOW := Lib.hid hown1
        have hS1 := keep_four hS hgw
        clear hR1 hB1 hg1 hat1 hown1 hgw HE0
        refine hK.out _ _ hS1 (fun hHeld2 => ?_)
        clear hK K
        refine norm_ (a' := ?_) ?_ ?_
        rotate_left
        · show Act.put _ (some 30) _ = _
          simp only [Act.put, List.setIfInBounds_toArray, List.set_cons_zero, List.set_cons_succ, i64_w, i32_w]
          rfl
        refine one_ (i := 14) (N := some 38) #[true, true, true, true, true, true, true, true, true, true, true, true, true, true, true, false, false, false, false] rfl rfl (by kernel_rfl) (by decide) (fun K hK => ?_)
        refine value_ (by rfl) rfl (by go_simp; first | rfl | exact ⟨rfl, rfl⟩) ?_
        have hW2 := HGW.out.alloc HGW.out.size (.cells #[.int .i64 p.f, .int .i64 p.t, .slice A2 p.d.length c2] 33)
        refine hK.out _ _ (keep_four hS hW2) (fun hHeld3 => ?_)
        clear hK K
        refine norm_ (a' := ?_) ?_ ?_
        rotate_left
        · show Act.put _ (some 38) _ = _
          simp only [Act.put, List.setIfInBounds_toArray, List.set_cons_zero, List.set_cons_succ, i64_w, i32_w]
          rfl
        refine tail_list 15 (t := [15, 16, 17, 18]) (fuel := 0) rfl rfl rfl (by kernel_rfl) (by decide) ?_
        have HE := Lib.hid (elem_row (blk_new w1 _) (Kd.R_below HC2.out hW2))
        replace HR1 := Lib.hid (Kd.R_alloc HR1.out (.cells #[.int .i64 p.f, .int .i64 p.t, .slice A2 p.d.length c2] 33))
        replace HGW := Lib.hid hW2
        clear hW2 hW1
        have hRL := HR1.out
        refine Kd.R_append_rows (w0 := w) kPkt (Rr := kPkt.M (w1.alloc (.cells #[.int .i64 p.f, .int .i64 p.t, .slice A2 p.d.length c2] 33)) (rb + 1) (fun k => k < w.heap.size)) (rb + 1) rfl _ _ 27 33 (.agg #[.int .i64 0, .int .i64 0, .slice none 0 0]) 40 rfl Try.underlying27 infoPkt rfl (by decide) (by decide) (.slice A1 L.length c1) L [p] (some ⟨w1.heap.size, 0, none⟩) 1 1 (fun _ => True) (fun k => k < w.heap.size) rfl rfl hRL HE.out (fun x cs h => h) (fun k hk => ⟨trivial, HOW.out k hk⟩) (fun _ _ => trivial) (HGW.out.mono (by omega)) (by have := HGW.out.size; omega) (by omega) ?hkA
        intro v2 w2 hR2 hB2 hg2 hat2
        have hg2' : w.grownBy w2 (Value.slice A1 L.length c1).ownBlock := gb_trans (gb_below HGW.out _) hg2
        have hgW2 : Below w.heap.size w w2 := gb_to_below hg2' (Nat.le_refl _) (fun k e => Nat.le_of_not_lt (fun hk => HOW.out k hk e.symm))
        obtain ⟨A3, c3, rfl⟩ := Kd.R_slice hR2
        have hrb := blk_below HBB.out hgW2
        obtain ⟨b0, b1⟩ := cells1 hrb
        have HR2 := Lib.hid hR2
        have HG2 := Lib.hid hgW2
        have HRB := Lib.hid hrb
        have hz2 := hgW2.size
        clear hR2 hB2 hg2 hat2 hg2' hgW2 hrb hRL HR1 HE HOW HGW HBB HR HC2 x0 x1 x2 hS
        go_wp2
        go_ret
        have hR3 : Kd.R kPkt 33 w2 (rb + 1) (fun _ => True) (.slice A3 (L.length + 1) c3) (L ++ [p]) := by simpa using HR2.out
        refine ⟨rfl, ⟨.slice A3 (L.length + 1) c3, by simpa using blk_set HRB.out 0 (.slice A3 (L.length + 1) c3), ?_⟩, gb_setCell (p := ⟨rb, 0, none⟩) (row := some rb) (gb_below HG2.out _) (Or.inl rfl) _⟩
        exact Kd.R_mono (Kd.R_far (p := ⟨rb, 0, none⟩) (ok := fun k => rb + 1 ≤ k) (Kd.R_mono (Kd.R_bound hR3) (fun k hk => hk.2.1)) (fun k hk => by simp only; omega) _) (fun _ _ => trivial)
      · skip
        refine value_ (by rfl) rfl (by go_simp; first | rfl | exact ⟨rfl, rfl⟩) ?_
        have hW2 : Below w.heap.size w ((w.alloc (.cells #[] 33)).alloc (.cells #[.int .i64 p.f, .int .i64 p.t, .slice A2 p.d.length c2] 33)).drew := (((Below.refl w.heap.size w).alloc (Nat.le_refl _) _).alloc (by simp) _).drew
        replace HE0 := Lib.hid (show Kd.R kPkt 33 (((w.alloc (.cells #[] 33)).alloc (.cells #[.int .i64 p.f, .int .i64 p.t, .slice A2 p.d.length c2] 33)).drew) (rb + 1) (fun _ => True) (.slice (some ⟨w.heap.size, 0, none⟩) 0 0) [] from Kd.R_drew (Kd.R_alloc (empty_row (by omega)) _))
        have hbp : ((w.alloc (.cells #[] 33)).alloc (.cells #[.int .i64 p.f, .int .i64 p.t, .slice A2 p.d.length c2] 33)).drew.heap[w.heap.size + 1]? = some (.cells #[.int .i64 p.f, .int .i64 p.t, .slice A2 p.d.length c2] 33 (0, 0)) := by
          have := blk_new (w.alloc (.cells #[] 33)) (.cells #[.int .i64 p.f, .int .i64 p.t, .slice A2 p.d.length c2] 33)
          rwa [World.size_alloc] at this
        refine hK.out _ _ (keep_four hS hW2) (fun hHeld2 => ?_)
        clear hK K
        refine norm_ (a' := ?_) ?_ ?_
        rotate_left
        · show Act.put _ (some 38) _ = _
          simp only [Act.put, List.setIfInBounds_toArray, List.set_cons_zero, List.set_cons_succ, i64_w, i32_w]
          rfl
        refine one_ (i := 6) (N := some 30) #[true, true, true, true, true, true, true, true, true, true, true, true, true, true, true, false, false, false, false] rfl rfl (by kernel_rfl) (by decide) (fun K hK => ?_)
        refine Kd.R_append_rows_step (w0 := (((w.alloc (.cells #[] 33)).alloc (.cells #[.int .i64 p.f, .int .i64 p.t, .slice A2 p.d.length c2] 33)).drew)) kPkt (Rr := kPkt.M (((w.alloc (.cells #[] 33)).alloc (.cells #[.int .i64 p.f, .int .i64 p.t, .slice A2 p.d.length c2] 33)).drew) (rb + 1) (fun k => k < w.heap.size)) (rb + 1) (by rfl) _ _ 27 33 (.agg #[.int .i64 0, .int .i64 0, .slice none 0 0]) 40 (by rfl) Try.underlying27 infoPkt rfl (by decide) (by decide) (.slice (some ⟨w.heap.size, 0, none⟩) 0 0) [] L (some ⟨g, 0, none⟩) L.length cap (fun _ => True) (fun k => k < w.heap.size) (by rfl) (by rfl) ?hob ?hrb (fun x cs h => h) (fun k hk => ⟨trivial, fun e => by simp [Value.ownBlock] at e; omega⟩) (fun _ _ => trivial) ?hbb ?hbaseb ?hlb ?hkb
        case hob => exact HE0.out
        case hrb => exact (kPkt_M_of HR.out rfl).imp_ hW2 (fun p c hp => kPkt.M_move (fun k hk => hW2.block k hk) hp)
        case hbb => exact Below.refl _ _
        case hbaseb => simp; omega
        case hlb => simp; omega
        intro v1 w1 hR1 hB1 hg1 hat1
        rw [List.nil_append] at hR1
        have hgw := gb_to_below (gb_trans (gb_below hW2 (some (w.heap.size))) hg1) (Nat.le_refl _) (fun k e => by have := Option.some.inj e; omega)
        have hz1 := hgw.size
        obtain ⟨A1, c1, rfl⟩ := Kd.R_slice hR1
        have hown1 : ∀ k, k < w.heap.size → some k ≠ (Value.slice A1 L.length c1).ownBlock := by
          intro k hk e
          rcases hat1 with h | ⟨b, h, hb⟩
          · rw [h] at e; simp [Value.ownBlock] at e; omega
          · rw [h] at e; have := Option.some.inj e; simp at hb; omega
        have HBP := Lib.hid (gb_blk hg1 hbp (fun e => absurd e (by simp [Value.ownBlock])))
        clear hbp
        have HR1 := Lib.hid (show Kd.R kPkt 33 w1 (rb + 1) (fun _ => True) (.slice A1 L.length c1) L from hR1)
        have HGW := Lib.hid (show Below w.heap.size w w1 from hgw)
        have HOW := Lib.hid hown1
        have hS1 := keep_four hS hgw
        clear hR1 hB1 hg1 hat1 hown1 hgw HE0
        refine hK.out _ _ hS1 (fun hHeld3 => ?_)
        clear hK K
        refine norm_ (a' := ?_) ?_ ?_
        rotate_left
        · show Act.put _ (some 30) _ = _
          simp only [Act.put, List.setIfInBounds_toArray, List.set_cons_zero, List.set_cons_succ, i64_w, i32_w]
          rfl
        refine tail_list 15 (t := [15, 16, 17, 18]) (fuel := 0) rfl rfl rfl (by kernel_rfl) (by decide) ?_
        have HE := Lib.hid (elem_row HBP.out (Kd.R_below HC2.out HGW.out))
        clear hW2 hW1 HBP
        have hRL := HR1.out
        refine Kd.R_append_rows (w0 := w) kPkt (Rr := kPkt.M w1 (rb + 1) (fun k => k < w.heap.size)) (rb + 1) rfl _ _ 27 33 (.agg #[.int .i64 0, .int .i64 0, .slice none 0 0]) 40 rfl Try.underlying27 infoPkt rfl (by decide) (by decide) (.slice A1 L.length c1) L [p] (some ⟨w.heap.size + 1, 0, none⟩) 1 1 (fun _ => True) (fun k => k < w.heap.size) rfl rfl hRL HE.out (fun x cs h => h) (fun k hk => ⟨trivial, HOW.out k hk⟩) (fun _ _ => trivial) (HGW.out.mono (by omega)) (by have := HGW.out.size; omega) (by omega) ?hkB
        intro v2 w2 hR2 hB2 hg2 hat2
        have hg2' : w.grownBy w2 (Value.slice A1 L.length c1).ownBlock := gb_trans (gb_below HGW.out _) hg2
        have hgW2 : Below w.heap.size w w2 := gb_to_below hg2' (Nat.le_refl _) (fun k e => Nat.le_of_not_lt (fun hk => HOW.out k hk e.symm))
        obtain ⟨A3, c3, rfl⟩ := Kd.R_slice hR2
        have hrb := blk_below HBB.out hgW2
        obtain ⟨b0, b1⟩ := cells1 hrb
        have HR2 := Lib.hid hR2
        have HG2 := Lib.hid hgW2
        have HRB := Lib.hid hrb
        have hz2 := hgW2.size
        clear hR2 hB2 hg2 hat2 hg2' hgW2 hrb hRL HR1 HE HOW HGW HBB HR HC2 x0 x1 x2 hS
        go_wp2
        go_ret
        have hR3 : Kd.R kPkt 33 w2 (rb + 1) (fun _ => True) (.slice A3 (L.length + 1) c3) (L ++ [p]) := by simpa using HR2.out
        refine ⟨rfl, ⟨.slice A3 (L.length + 1) c3, by simpa using blk_set HRB.out 0 (.slice A3 (L.length + 1) c3), ?_⟩, gb_setCell (p := ⟨rb, 0, none⟩) (row := some rb) (gb_below HG2.out _) (Or.inl rfl) _⟩
        exact Kd.R_mono (Kd.R_far (p := ⟨rb, 0, none⟩) (ok := fun k => rb + 1 ≤ k) (Kd.R_mono (Kd.R_bound hR3) (fun k hk => hk.2.1)) (fun k hk => by simp only; omega) _) (fun _ _ => trivial)
    · skip
      refine value_ (by rfl) rfl (by go_simp; first | rfl | exact ⟨rfl, rfl⟩) ?_
      have hW1 : Below w.heap.size w (w.alloc (.cells #[.int .i64 p.f, .int .i64 p.t, .slice A2 p.d.length c2] 33)).drew := ((Below.refl w.heap.size w).alloc (Nat.le_refl _) _).drew
      refine hK.out _ _ (keep_four hS hW1) (fun hHeld1 => ?_)
      clear hK K
      refine norm_ (a' := ?_) ?_ ?_
      rotate_left
      · show Act.put _ (some 38) _ = _
        simp only [Act.put, List.setIfInBounds_toArray, List.set_cons_zero, List.set_cons_succ, i64_w, i32_w]
        rfl
      refine one_ (i := 1) (N := some 25) #[true, true, true, true, true, true, false, true, true, true, true, true, true, true, true, false, false, false, false] rfl rfl (by kernel_rfl) (by decide) (fun K hK => ?_)
      refine value_ (by rfl) rfl (by go_simp; first | rfl | exact ⟨rfl, rfl⟩) ?_
      have hW2 : Below w.heap.size w ((w.alloc (.cells #[.int .i64 p.f, .int .i64 p.t, .slice A2 p.d.length c2] 33)).alloc (.cells #[] 33)).drew := (((Below.refl w.heap.size w).alloc (Nat.le_refl _) _).alloc (by simp) _).drew
      have HE0 := Lib.hid (show Kd.R kPkt 33 (((w.alloc (.cells #[.int .i64 p.f, .int .i64 p.t, .slice A2 p.d.length c2] 33)).alloc (.cells #[] 33)).drew) (rb + 1) (fun _ => True) (.slice (some ⟨w.heap.size + 1, 0, none⟩) 0 0) [] from by
        have h := empty_row (base := rb + 1) (w := w.alloc (.cells #[.int .i64 p.f, .int .i64 p.t, .slice A2 p.d.length c2] 33)) (by simp; omega)
        rw [World.size_alloc] at h
        exact Kd.R_drew h)
      have hbp : ((w.alloc (.cells #[.int .i64 p.f, .int .i64 p.t, .slice A2 p.d.length c2] 33)).alloc (.cells #[] 33)).drew.heap[w.heap.size]? = some (.cells #[.int .i64 p.f, .int .i64 p.t, .slice A2 p.d.length c2] 33 (0, 0)) := blk_alloc (blk_new w _) _
      refine hK.out _ _ (keep_four hS hW2) (fun hHeld2 => ?_)
      clear hK K
      refine norm_ (a' := ?_) ?_ ?_
      rotate_left
      · show Act.put _ (some 25) _ = _
        simp only [Act.put, List.setIfInBounds_toArray, List.set_cons_zero, List.set_cons_succ, i64_w, i32_w]
        rfl
      refine one_ (i := 6) (N := some 30) #[true, true, true, true, true, true, true, true, true, true, true, true, true, true, true, false, false, false, false] rfl rfl (by kernel_rfl) (by decide) (fun K hK => ?_)
      refine Kd.R_append_rows_step (w0 := (((w.alloc (.cells #[.int .i64 p.f, .int .i64 p.t, .slice A2 p.d.length c2] 33)).alloc (.cells #[] 33)).drew)) kPkt (Rr := kPkt.M (((w.alloc (.cells #[.int .i64 p.f, .int .i64 p.t, .slice A2 p.d.length c2] 33)).alloc (.cells #[] 33)).drew) (rb + 1) (fun k => k < w.heap.size)) (rb + 1) (by rfl) _ _ 27 33 (.agg #[.int .i64 0, .int .i64 0, .slice none 0 0]) 40 (by rfl) Try.underlying27 infoPkt rfl (by decide) (by decide) (.slice (some ⟨w.heap.size + 1, 0, none⟩) 0 0) [] L (some ⟨g, 0, none⟩) L.length cap (fun _ => True) (fun k => k < w.heap.size) (by rfl) (by rfl) ?hoc ?hrc (fun x cs h => h) (fun k hk => ⟨trivial, fun e => by simp [Value.ownBlock] at e; omega⟩) (fun _ _ => trivial) ?hbc ?hbasec ?hlc ?hkc
      case hoc => exact HE0.out
      case hrc => exact (kPkt_M_of HR.out rfl).imp_ hW2 (fun p c hp => kPkt.M_move (fun k hk => hW2.block k hk) hp)
      case hbc => exact Below.refl _ _
      case hbasec => simp; omega
      case hlc => simp; omega
      intro v1 w1 hR1 hB1 hg1 hat1
      rw [List.nil_append] at hR1
      have hgw := gb_to_below (gb_trans (gb_below hW2 (some (w.heap.size + 1))) hg1) (Nat.le_refl _) (fun k e => by have := Option.some.inj e; omega)
      have hz1 := hgw.size
      obtain ⟨A1, c1, rfl⟩ := Kd.R_slice hR1
      have hown1 : ∀ k, k < w.heap.size → some k ≠ (Value.slice A1 L.length c1).ownBlock := by
        intro k hk e
        rcases hat1 with h | ⟨b, h, hb⟩
        · rw [h] at e; simp [Value.ownBlock] at e; omega
        · rw [h] at e; have := Option.some.inj e; simp at hb; omega
      have HBP := Lib.hid (gb_blk hg1 hbp (fun e => absurd e (by simp [Value.ownBlock])))
      clear hbp
      have HR1 := Lib.hid (show Kd.R kPkt 33 w1 (rb + 1) (fun _ => True) (.slice A1 L.length c1) L from hR1)
      have HGW := Lib.hid (show Below w.heap.size w w1 from hgw)
      have HOW := Lib.hid hown1
      have hS1 := keep_four hS hgw
      clear hR1 hB1 hg1 hat1 hown1 hgw HE0
      refine hK.out _ _ hS1 (fun hHeld3 => ?_)
      clear hK K
      refine norm_ (a' := ?_) ?_ ?_
      rotate_left
      · show Act.put _ (some 30) _ = _
        simp only [Act.put, List.setIfInBounds_toArray, List.set_cons_zero, List.set_cons_succ, i64_w, i32_w]
        rfl
      refine tail_list 15 (t := [15, 16, 17, 18]) (fuel := 0) rfl rfl rfl (by kernel_rfl) (by decide) ?_
      have HE := Lib.hid (elem_row HBP.out (Kd.R_below HC2.out HGW.out))
      clear hW2 hW1 HBP
      have hRL := HR1.out
      refine Kd.R_append_rows (w0 := w) kPkt (Rr := kPkt.M w1 (rb + 1) (fun k => k < w.heap.size)) (rb + 1) rfl _ _ 27 33 (.agg #[.int .i64 0, .int .i64 0, .slice none 0 0]) 40 rfl Try.underlying27 infoPkt rfl (by decide) (by decide) (.slice A1 L.length c1) L [p] (some ⟨w.heap.size, 0, none⟩) 1 1 (fun _ => True) (fun k => k < w.heap.size) rfl rfl hRL HE.out (fun x cs h => h) (fun k hk => ⟨trivial, HOW.out k hk⟩) (fun _ _ => trivial) (HGW.out.mono (by omega)) (by have := HGW.out.size; omega) (by omega) ?hkC
      intro v2 w2 hR2 hB2 hg2 hat2
      have hg2' : w.grownBy w2 (Value.slice A1 L.length c1).ownBlock := gb_trans (gb_below HGW.out _) hg2
      have hgW2 : Below w.heap.size w w2 := gb_to_below hg2' (Nat.le_refl _) (fun k e => Nat.le_of_not_lt (fun hk => HOW.out k hk e.symm))
      obtain ⟨A3, c3, rfl⟩ := Kd.R_slice hR2
      have hrb := blk_below HBB.out hgW2
      obtain ⟨b0, b1⟩ := cells1 hrb
      have HR2 := Lib.hid hR2
      have HG2 := Lib.hid hgW2
      have HRB := Lib.hid hrb
      have hz2 := hgW2.size
      clear hR2 hB2 hg2 hat2 hg2' hgW2 hrb hRL HR1 HE HOW HGW HBB HR HC2 x0 x1 x2 hS
      go_wp2
      go_ret
      have hR3 : Kd.R kPkt 33 w2 (rb + 1) (fun _ => True) (.slice A3 (L.length + 1) c3) (L ++ [p]) := by simpa using HR2.out
      refine ⟨rfl, ⟨.slice A3 (L.length + 1) c3, by simpa using blk_set HRB.out 0 (.slice A3 (L.length + 1) c3), ?_⟩, gb_setCell (p := ⟨rb, 0, none⟩) (row := some rb) (gb_below HG2.out _) (Or.inl rfl) _⟩
      exact Kd.R_mono (Kd.R_far (p := ⟨rb, 0, none⟩) (ok := fun k => rb + 1 ≤ k) (Kd.R_mono (Kd.R_bound hR3) (fun k hk => hk.2.1)) (fun k hk => by simp only; omega) _) (fun _ _ => trivial)
end Go.Proofs.Ytjkgkkopfpkdfaa
