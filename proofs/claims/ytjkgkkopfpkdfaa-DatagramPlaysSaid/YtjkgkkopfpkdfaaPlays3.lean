/- DatagramPlays: the reference's Take. -/
import Derived.Test.YtjkgkkopfpkdfaaPlays2
set_option linter.unusedVariables false
set_option linter.unusedSimpArgs false
namespace Go.Proofs.Ytjkgkkopfpkdfaa
open Go.RowKit Go.Conc Go.Proofs.YtjkgkkopfpkdfaaW.PrintWords Go.Proofs.YtjkgkkopfpkdfaaW.PrintLast

/-- A part of a row that is read. -/
theorem row_part {α : Type} {R : α → List Value → Prop} {size g n : Nat} {w : World} {ps : List α} (h : ReadsRow R size w (some ⟨g, 0, none⟩) n ps) (i m : Nat) (hm : i + m ≤ n) :
    ReadsRow R size w (some ⟨g, i * size, none⟩) m ((ps.drop i).take m) := by
  refine ⟨by have := h.1; simp; omega, by have := h.2.1; omega, fun hp => ⟨_, rfl, fun j p hj => ?_⟩⟩
  obtain ⟨ad, e, hc⟩ := h.2.2 (by omega)
  obtain rfl : (⟨g, 0, none⟩ : Addr) = ad := Option.some.inj e
  have hj' : j < m := by have := (List.getElem?_eq_some_iff.1 hj).1; simp at this; omega
  rw [List.getElem?_take, if_pos hj', List.getElem?_drop] at hj
  obtain ⟨c, hs, hr, hcell⟩ := hc (i + j) p hj
  refine ⟨c, hs, hr, fun k u hu => ?_⟩
  have := hcell k u hu
  rw [show (⟨g, i * size, none⟩ : Addr) = (⟨g, 0, none⟩ : Addr).add (i * size) from (add_plain _ _).symm, Go.Deep.add_add, ← this]
  congr 2
  rw [Nat.add_mul]
  omega

theorem kPkt_M_of {w : World} {base : Nat} {ok : Nat → Prop} {v : Value} {L : List Pkt} (h : Kd.R kPkt 33 w base ok v L) {g cap : Nat} (hv : v = .slice (some ⟨g, 0, none⟩) L.length cap) :
    ReadsRow (kPkt.M w base ok) 3 w (some ⟨g, 0, none⟩) L.length L := by
  obtain ⟨_, hO⟩ := h
  obtain ⟨A, c, e, _, hr⟩ := OwnRow.reads hO
  rw [hv] at e
  injection e with e
  subst e
  exact hr.imp_ (Below.refl _ _) (fun p c hp => kPkt.M_mono (fun k hk => hk.1) hp)

theorem at_PktR {w : World} {base g n cap : Nat} {ok : Nat → Prop} {xs : List Pkt} (h : Kd.R kPkt 33 w base ok (.slice (some ⟨g, 0, none⟩) n cap) xs) (i : Nat) (p : Pkt) (hp : xs[i]? = some p) :
    ∃ A2 c2, w.cell? ⟨g, i * 3, none⟩ = some (.int .i64 p.f) ∧ w.cell? ⟨g, i * 3 + 1, none⟩ = some (.int .i64 p.t) ∧ w.cell? ⟨g, i * 3 + 2, none⟩ = some (.slice A2 p.d.length c2) ∧ p.d.length ≤ c2 ∧ Kd.R (Kd.int .u8) 5 w base (fun _ => True) (.slice A2 p.d.length c2) p.d := by
  obtain ⟨hn, _, _⟩ := Kd.R_reads' h
  have hi := (List.getElem?_eq_some_iff.1 hp).1
  obtain ⟨c, _, hM, hc, _⟩ := Kd.R_elem h ⟨0, 0, []⟩ (i : Int) (by omega) (by omega)
  rw [Int.toNat_natCast, List.getD_eq_getElem?_getD, hp] at hM
  obtain ⟨_, _, rfl, rfl, ⟨_, _, rfl, rfl, ⟨sv, rfl, hR⟩⟩⟩ := hM
  simp only [Int.toNat_natCast] at hc
  obtain ⟨A2, c2, rfl, hl, _⟩ := Kd.R_reads hR
  exact ⟨A2, c2, hc 0 _ rfl, hc 1 _ rfl, hc 2 _ rfl, hl, Kd.R_mono hR (fun _ _ => trivial)⟩

set_option maxHeartbeats 2000000 in
theorem refTake_in (n : Nat) (p : Pkt) (rb : Nat) (L : List Pkt) (w : World) (hn : RefOk w rb L) (hL : L.length ≤ 256) (hp : L[n]? = some p) :
    Calls Try.prog 11 #[.pointer (some ⟨rb, 0, none⟩), .int .i64 n] w fun e w' =>
      ∃ A c, e = .returned (.tuple #[.agg #[.int .i64 p.f, .int .i64 p.t, .slice A p.d.length c], .bool true]) ∧ RefOk w' rb (L.eraseIdx n) ∧ Kd.C (Kd.int .u8) w' A p.d.length p.d ∧ w.grownBy w' (some rb) := by
  have hnl : n < L.length := (List.getElem?_eq_some_iff.1 hp).1
  obtain ⟨v, hb, hR⟩ := hn
  obtain ⟨g, cap, rfl, hgb, hgl, _⟩ := Kd.R_form hR (by omega)
  obtain ⟨_, hcap, _⟩ := Kd.R_reads' hR
  obtain ⟨A2, c2, x0, x1, x2, l2, hC2⟩ := at_PktR hR n p hp
  obtain ⟨r0, _⟩ := cells1 hb
  have hlt := blk_lt hb
  have HC2 := Lib.hid hC2
  have HR := Lib.hid hR
  have HBB := Lib.hid hb
  clear hC2 hR hb
  have d1 : decide ((n : Int) < 0) = false := decide_eq_false (by omega)
  have d2 : decide ((L.length : Int) ≤ (n : Int)) = false := decide_eq_false (by omega)
  have d5 : decide (L.length ≤ n) = false := decide_eq_false (by omega)
  have d3 : (n : Int) < (L.length : Int) := by omega
  have d4 : (0 : Int) ≤ (n : Int) := by omega
  go_enter Try.func11, Try.ntmps11
  go_upto_region 4 with (fail)
  generalize hW : (w.alloc (.cells #[.int .i64 0, .int .i64 0, .slice none 0 0] 33)).alloc (.cells #[.int .i64 p.f, .int .i64 p.t, .slice A2 p.d.length c2] 33) = W
  have hBW : Below w.heap.size w W := by rw [← hW]; exact ((Below.refl _ _).alloc (Nat.le_refl _) _).alloc (by simp) _
  have hszW : w.heap.size + 2 ≤ W.heap.size := by rw [← hW]; simp
  have hob : W.heap[w.heap.size]? = some (.cells #[.int .i64 0, .int .i64 0, .slice none 0 0] 33 (0, 0)) := by rw [← hW]; exact blk_alloc (blk_new _ _) _
  have hpb : W.heap[w.heap.size + 1]? = some (.cells #[.int .i64 p.f, .int .i64 p.t, .slice A2 p.d.length c2] 33 (0, 0)) := by
    rw [← hW]
    have := blk_new (w.alloc (.cells #[.int .i64 0, .int .i64 0, .slice none 0 0] 33)) (.cells #[.int .i64 p.f, .int .i64 p.t, .slice A2 p.d.length c2] 33)
    rwa [World.size_alloc] at this
  have HRW := Lib.hid (Kd.R_below (Kd.R_mono (ok' := fun k => k < w.heap.size) (Kd.R_bound HR.out) (fun k hk => hk.2.2.1)) hBW)
  have r0' : W.cell? ⟨rb, 0, none⟩ = some (.slice (some ⟨g, 0, none⟩) L.length cap) := (hBW.cell (p := ⟨rb, 0, none⟩) hlt).trans r0
  have HWB := Lib.hid hBW
  have HOB := Lib.hid hob
  have HPB := Lib.hid hpb
  clear hW hBW hob hpb HR x0 x1 x2
  have d6 : n ≤ cap := by omega
  have d7 : wrap64 ((n : Int) + 1) = ((n + 1 : Nat) : Int) := by unfold wrap64; omega
  have d8 : (0 : Int) ≤ (n : Int) + 1 := by omega
  have d10 : (n : Int) + 1 ≤ (L.length : Int) := by omega
  have d9 : n + 1 ≤ L.length := by omega
  obtain ⟨A16, h16, hA16⟩ : ∃ A16 : Option Addr, (if cap = n + 1 then some (⟨g, 0, none⟩ : Addr) else some ⟨g, (n + 1) * 3, none⟩) = A16 ∧ (0 < L.length - (n + 1) → A16 = some ⟨g, (n + 1) * 3, none⟩) :=
    ⟨_, rfl, fun h => by rw [if_neg (by omega)]⟩
  refine start_ (S := fun w' => w'.cell? ⟨rb, 0, none⟩ = some (.slice (some ⟨g, 0, none⟩) L.length cap)) (ds := [17, 18, 19]) (n := 20) #[false, false, false, false, false, false, false, false, false, false, false, false, false, false, false, false, false, false, false, false] rfl rfl rfl ?hS0 (fun hHeld => ?hrun)
  case hS0 => exact r0'
  case hrun =>
    refine pure_ (i := 0) (N := some 26) (v := ?_) (a' := ?_) #[true, false, false, false, false, false, false, false, false, false, false, false, false, false, false, false, false, false, false, false] rfl rfl (by kernel_rfl) (fun _ _ _ h => h) (Or.inl ⟨by rfl, ?_⟩) ?_ ?_
    rotate_left
    · intro w'
      go_simp
      with_reducible rfl
    rotate_left
    · simp only [Act.put, List.setIfInBounds_toArray, List.set_cons_zero, List.set_cons_succ, i64_w, i32_w]
      rfl
    refine pure_ (i := 2) (N := some 28) (v := ?_) (a' := ?_) #[true, false, true, false, false, false, false, false, false, false, false, false, false, false, false, false, false, false, false, false] rfl rfl (by kernel_rfl) (fun _ _ _ h => h) (Or.inl ⟨by rfl, ?_⟩) ?_ ?_
    rotate_left
    · intro w'
      go_simp
      with_reducible rfl
    rotate_left
    · simp only [Act.put, List.setIfInBounds_toArray, List.set_cons_zero, List.set_cons_succ, i64_w, i32_w]
      rfl
    refine pure_ (i := 3) (N := some 29) (v := ?_) (a' := ?_) #[true, false, true, true, false, false, false, false, false, false, false, false, false, false, false, false, false, false, false, false] rfl rfl (by kernel_rfl) (fun _ _ _ h => h) (Or.inl ⟨by rfl, ?_⟩) ?_ ?_
    rotate_left
    · intro w'
      go_simp
      with_reducible rfl
    rotate_left
    · simp only [Act.put, List.setIfInBounds_toArray, List.set_cons_zero, List.set_cons_succ, i64_w, i32_w]
      rfl
    refine pure_ (i := 4) (N := some 30) (v := ?_) (a' := ?_) #[true, false, true, true, true, false, false, false, false, false, false, false, false, false, false, false, false, false, false, false] rfl rfl (by kernel_rfl) (fun _ _ _ h => h) (Or.inl ⟨by rfl, ?_⟩) ?_ ?_
    rotate_left
    · intro w'
      go_simp
      with_reducible rfl
    rotate_left
    · simp only [Act.put, List.setIfInBounds_toArray, List.set_cons_zero, List.set_cons_succ, i64_w, i32_w]
      rfl
    refine take_ (i := 5) (N := some 31) (v := ?_) (a' := ?_) #[true, false, true, true, true, true, false, false, false, false, false, false, false, false, false, false, false, false, false, false] rfl rfl (by kernel_rfl) (fun _ _ _ h => h) (Or.inl ⟨by rfl, ?_⟩) hHeld ?_ ?_
    rotate_left
    · rintro w' s0
      go_simp
      with_reducible rfl
    rotate_left
    · simp only [Act.put, List.setIfInBounds_toArray, List.set_cons_zero, List.set_cons_succ, i64_w, i32_w]
      rfl
    refine pure_ (i := 6) (N := some 32) (v := ?_) (a' := ?_) #[true, false, true, true, true, true, true, false, false, false, false, false, false, false, false, false, false, false, false, false] rfl rfl (by kernel_rfl) (fun _ _ _ h => h) (Or.inl ⟨by rfl, ?_⟩) ?_ ?_
    rotate_left
    · intro w'
      go_simp
      with_reducible rfl
    rotate_left
    · simp only [Act.put, List.setIfInBounds_toArray, List.set_cons_zero, List.set_cons_succ, i64_w, i32_w]
      rfl
    refine pure_ (i := 7) (N := some 33) (v := ?_) (a' := ?_) #[true, false, true, true, true, true, true, true, false, false, false, false, false, false, false, false, false, false, false, false] rfl rfl (by kernel_rfl) (fun _ _ _ h => h) (Or.inl ⟨by rfl, ?_⟩) ?_ ?_
    rotate_left
    · intro w'
      go_simp
      with_reducible rfl
    rotate_left
    · simp only [Act.put, List.setIfInBounds_toArray, List.set_cons_zero, List.set_cons_succ, i64_w, i32_w]
      rfl
    refine pure_ (i := 9) (N := some 35) (v := ?_) (a' := ?_) #[true, false, true, true, true, true, true, true, false, true, false, false, false, false, false, false, false, false, false, false] rfl rfl (by kernel_rfl) (fun _ _ _ h => h) (Or.inl ⟨by rfl, ?_⟩) ?_ ?_
    rotate_left
    · intro w'
      go_simp
      with_reducible rfl
    rotate_left
    · simp only [Act.put, List.setIfInBounds_toArray, List.set_cons_zero, List.set_cons_succ, i64_w, i32_w]
      rfl
    refine pure_ (i := 10) (N := some 36) (v := ?_) (a' := ?_) #[true, false, true, true, true, true, true, true, false, true, true, false, false, false, false, false, false, false, false, false] rfl rfl (by kernel_rfl) (fun _ _ _ h => h) (Or.inl ⟨by rfl, ?_⟩) ?_ ?_
    rotate_left
    · intro w'
      go_simp
      with_reducible rfl
    rotate_left
    · simp only [Act.put, List.setIfInBounds_toArray, List.set_cons_zero, List.set_cons_succ, i64_w, i32_w]
      rfl
    refine pure_ (i := 11) (N := some 37) (v := ?_) (a' := ?_) #[true, false, true, true, true, true, true, true, false, true, true, true, false, false, false, false, false, false, false, false] rfl rfl (by kernel_rfl) (fun _ _ _ h => h) (Or.inl ⟨by rfl, ?_⟩) ?_ ?_
    rotate_left
    · intro w'
      go_simp
      with_reducible rfl
    rotate_left
    · simp only [Act.put, List.setIfInBounds_toArray, List.set_cons_zero, List.set_cons_succ, i64_w, i32_w]
      rfl
    refine take_ (i := 12) (N := some 38) (v := ?_) (a' := ?_) #[true, false, true, true, true, true, true, true, false, true, true, true, true, false, false, false, false, false, false, false] rfl rfl (by kernel_rfl) (fun _ _ _ h => h) (Or.inl ⟨by rfl, ?_⟩) hHeld ?_ ?_
    rotate_left
    · rintro w' s0
      go_simp
      with_reducible rfl
    rotate_left
    · simp only [Act.put, List.setIfInBounds_toArray, List.set_cons_zero, List.set_cons_succ, i64_w, i32_w]
      rfl
    refine pure_ (i := 13) (N := some 39) (v := ?_) (a' := ?_) #[true, false, true, true, true, true, true, true, false, true, true, true, true, true, false, false, false, false, false, false] rfl rfl (by kernel_rfl) (fun _ _ _ h => h) (Or.inl ⟨by rfl, ?_⟩) ?_ ?_
    rotate_left
    · intro w'
      go_simp
      with_reducible rfl
    rotate_left
    · simp only [Act.put, List.setIfInBounds_toArray, List.set_cons_zero, List.set_cons_succ, i64_w, i32_w]
      rfl
    refine pure_ (i := 14) (N := some 40) (v := ?_) (a' := ?_) #[true, false, true, true, true, true, true, true, false, true, true, true, true, true, true, false, false, false, false, false] rfl rfl (by kernel_rfl) (fun _ _ _ h => h) (Or.inl ⟨by rfl, ?_⟩) ?_ ?_
    rotate_left
    · intro w'
      go_simp
      with_reducible rfl
    rotate_left
    · simp only [Act.put, List.setIfInBounds_toArray, List.set_cons_zero, List.set_cons_succ, i64_w, i32_w]
      rfl
    refine pure_ (i := 15) (N := some 41) (v := ?_) (a' := ?_) #[true, false, true, true, true, true, true, true, false, true, true, true, true, true, true, true, false, false, false, false] rfl rfl (by kernel_rfl) (fun _ _ _ h => h) (Or.inl ⟨by rfl, ?_⟩) ?_ ?_
    rotate_left
    · intro w'
      go_simp
      with_reducible rfl
    rotate_left
    · simp only [Act.put, List.setIfInBounds_toArray, List.set_cons_zero, List.set_cons_succ, i64_w, i32_w]
      rfl
    refine one_ (i := 1) (N := some 27) #[true, true, true, true, true, true, true, true, false, true, true, true, true, true, true, true, false, false, false, false] rfl rfl (by kernel_rfl) (by decide) (fun K hK => ?_)
    refine value_ (by rfl) rfl (by go_simp; first | rfl | exact ⟨rfl, rfl⟩) ?_
    refine hK.out _ _ (pw_cell_below ((Below.refl W.heap.size W).alloc (Nat.le_refl _) _).drew r0') (fun hHeld1 => ?_)
    clear hK K
    refine norm_ (a' := ?_) ?_ ?_
    rotate_left
    · show Act.put _ (some 27) _ = _
      simp only [Act.put, List.setIfInBounds_toArray, List.set_cons_zero, List.set_cons_succ, i64_w, i32_w]
      rfl
    refine one_ (i := 8) (N := some 34) #[true, true, true, true, true, true, true, true, true, true, true, true, true, true, true, true, false, false, false, false] rfl rfl (by kernel_rfl) (by decide) (fun K hK => ?_)
    refine Kd.R_append_rows_step (w0 := W) kPkt (Rr := kPkt.M ((W.alloc (.cells #[] 33)).drew) (rb + 1) (fun k => k < w.heap.size)) (rb + 1) (by rfl) _ _ 27 33 (.agg #[.int .i64 0, .int .i64 0, .slice none 0 0]) 40 (by rfl) Try.underlying27 infoPkt rfl (by decide) (by decide) (.slice (some ⟨W.heap.size, 0, none⟩) 0 0) [] (L.take n) (some ⟨g, 0, none⟩) n cap (fun k => k ≠ w.heap.size) (fun k => k < w.heap.size) (by rfl) (by rfl) ?ho1 ?hr1 (fun x cs h => h) (fun k hk => ⟨by omega, fun e => by simp [Value.ownBlock] at e; omega⟩) (fun k hk => by simp at hk; omega) ?hb1 ?hbase1 ?hl1 ?hk1
    case ho1 =>
      refine ⟨fun k hk => by simp [Value.ownBlock] at hk; omega, [], World.ownsRow_made (base := rb + 1) (e := 33) (size := 3) W #[] 0 (by omega) (by decide) rfl, rfl, fun j p hj => by simp at hj⟩
    case hr1 =>
      have h := row_part (kPkt_M_of HRW.out rfl) 0 n (by omega)
      rw [Nat.zero_mul, List.drop_zero] at h
      refine h.imp_ ((Below.refl W.heap.size W).alloc (Nat.le_refl _) _).drew (fun p c hp => ?_)
      exact kPkt.M_move (fun k hk => (((Below.refl W.heap.size W).alloc (Nat.le_refl _) _).drew).block k (by omega)) hp
    case hb1 => exact (((Below.refl W.heap.size W).alloc (Nat.le_refl _) _).drew).mono (by omega)
    case hbase1 => simp; omega
    case hl1 => simp; omega
    intro v1 w1 hR1 hB1 hg1 hat1
    rw [List.nil_append] at hR1
    have hgW : Below W.heap.size W w1 := (Below.refl W.heap.size W).trans ((gb_to_below (gb_trans (gb_below (((Below.refl W.heap.size W).alloc (Nat.le_refl _) (.cells #[] 33)).drew) (some W.heap.size)) hg1) (Nat.le_refl _) (fun k e => by have := Option.some.inj e; omega)))
    have hz1 := hgW.size
    obtain ⟨A1, c1, rfl⟩ := Kd.R_slice hR1
    have hown1 : ∀ k, k < W.heap.size → some k ≠ (Value.slice A1 (L.take n).length c1).ownBlock := by
      intro k hk e
      rcases hat1 with h | ⟨b, h, hb⟩
      · rw [h] at e; simp [Value.ownBlock] at e; omega
      · rw [h] at e; have := Option.some.inj e; simp at hb; omega
    have HR1 := Lib.hid hR1
    have HGW := Lib.hid hgW
    have HOW := Lib.hid hown1
    have hlen : (L.take n).length = n := by simp; omega
    clear hR1 hB1 hg1 hat1 hgW hown1
    refine hK.out _ _ (pw_cell_below HGW.out r0') (fun hHeld2 => ?_)
    clear hK K
    refine norm_ (a' := ?_) ?_ ?_
    rotate_left
    · show Act.put _ (some 34) _ = _
      simp only [Act.put, List.setIfInBounds_toArray, List.set_cons_zero, List.set_cons_succ, i64_w, i32_w]
      rfl
    refine one_ (i := 16) (N := some 42) #[true, true, true, true, true, true, true, true, true, true, true, true, true, true, true, true, true, false, false, false] rfl rfl (by kernel_rfl) (by decide) (fun K hK => ?_)
    refine Kd.R_append_rows_step (w0 := W) kPkt (Rr := kPkt.M w1 (rb + 1) (fun k => k < w.heap.size)) (rb + 1) (by rfl) _ _ 27 33 (.agg #[.int .i64 0, .int .i64 0, .slice none 0 0]) 40 (by rfl) Try.underlying27 infoPkt rfl (by decide) (by decide) (.slice A1 (L.take n).length c1) (L.take n) (L.drop (n + 1)) A16 (L.length - (n + 1)) (cap - (n + 1)) (fun k => k ≠ w.heap.size) (fun k => k < w.heap.size) (by rfl) (by rfl) HR1.out ?hr2 (fun x cs h => h) (fun k hk => ⟨by omega, HOW.out k (by omega)⟩) (fun k hk => by omega) ?hb2 ?hbase2 ?hl2 ?hk2
    case hr2 =>
      rcases Nat.eq_zero_or_pos (L.length - (n + 1)) with h0 | h0
      · rw [h0]
        exact ⟨by simp; omega, by omega, fun h => by omega⟩
      · rw [hA16 h0]
        have h := row_part (kPkt_M_of HRW.out rfl) (n + 1) (L.length - (n + 1)) (by omega)
        rw [List.take_of_length_le (by simp)] at h
        exact h.imp_ HGW.out (fun p c hp => kPkt.M_move (fun k hk => HGW.out.block k (by omega)) hp)
    case hb2 => exact HGW.out.mono (by omega)
    case hbase2 => omega
    case hl2 => rw [hlen]; omega
    intro v2 w2 hR2 hB2 hg2 hat2
    rw [← List.eraseIdx_eq_take_drop_succ] at hR2
    have hg2' : W.grownBy w2 (Value.slice A1 (L.take n).length c1).ownBlock := gb_trans (gb_below HGW.out _) hg2
    have hgW2 : Below W.heap.size W w2 := gb_to_below hg2' (Nat.le_refl _) (fun k e => Nat.le_of_not_lt (fun hk => HOW.out k hk e.symm))
    obtain ⟨A3, c3, rfl⟩ := Kd.R_slice hR2
    have HR2 := Lib.hid hR2
    have HG2 := Lib.hid hgW2
    have hz2 := hgW2.size
    clear hR2 hB2 hg2 hat2 hg2' hgW2
    refine hK.out _ _ (pw_cell_below HG2.out r0') (fun hHeld3 => ?_)
    clear hK K
    refine norm_ (a' := ?_) ?_ ?_
    rotate_left
    · show Act.put _ (some 42) _ = _
      simp only [Act.put, List.setIfInBounds_toArray, List.set_cons_zero, List.set_cons_succ, i64_w, i32_w]
      rfl
    refine tail_list 17 (t := [17, 18, 19]) (fuel := 0) rfl rfl rfl (by kernel_rfl) (by decide) ?_
    have hrb := blk_below (blk_below HBB.out HWB.out) HG2.out
    have hob := blk_below HOB.out HG2.out
    have hpb := blk_below HPB.out HG2.out
    obtain ⟨o0, o1, o2, f0, f1, f2⟩ := cells3 hob
    obtain ⟨p0, p1, p2, _⟩ := cells3 hpb
    obtain ⟨b0, b1⟩ := cells1 hrb
    have HRB := Lib.hid hrb
    clear hHeld hHeld1 hHeld2 hHeld3 hrb hob hpb HR1 HRW HOB HPB HBB r0 r0' HGW HOW
    go_wp2_with fail
    have hR2 := HR2.out
    have hG2 := HG2.out
    have hWB := HWB.out
    refine bodyPost_ret (v := .tuple #[.agg #[.int .i64 p.f, .int .i64 p.t, .slice A2 p.d.length c2], .bool true]) (by simp [results, Try.results11, go_sem, o0, o1, o2, f0, f1, f2, b0, b1]) rfl ⟨A2, ⟨c2, rfl⟩, ⟨.slice A3 (L.eraseIdx n).length c3, ?_, ?_⟩, ?_, ?_⟩
    · rw [Below.heap_setCell _ _ _ _ (by simp only; omega), Below.heap_setCell _ _ _ _ (by simp only; omega), Below.heap_setCell _ _ _ _ (by simp only; omega)]
      simpa using blk_set HRB.out 0 (.slice A3 (L.eraseIdx n).length c3)
    · refine Kd.R_mono (ok' := fun _ => True) (Kd.R_far (Kd.R_far (Kd.R_far (Kd.R_far (ok := fun k => k ≠ w.heap.size ∧ rb + 1 ≤ k) (Kd.R_mono (Kd.R_bound hR2) (fun k hk => ⟨hk.1, hk.2.1⟩)) ?_ _) ?_ _) ?_ _) ?_ _) (fun _ _ => trivial)
      all_goals (intro k hk; simp only; omega)
    · have h0 : Below w.heap.size w w2 := below_then hWB hWB.size hG2
      have hg : w.grownBy _ (some rb) := gb_setCell (p := ⟨w.heap.size, 2, none⟩) (gb_setCell (p := ⟨w.heap.size, 1, none⟩) (gb_setCell (p := ⟨w.heap.size, 0, none⟩) (gb_setCell (p := ⟨rb, 0, none⟩) (row := some rb) (gb_below h0 _) (Or.inl rfl) (.slice A3 (L.eraseIdx n).length c3)) (Or.inr (Nat.le_refl _)) (.int .i64 p.f)) (Or.inr (Nat.le_refl _)) (.int .i64 p.t)) (Or.inr (Nat.le_refl _)) (.slice A2 p.d.length c2)
      exact (Kd.R_reads' (Kd.R_grown (Kd.R_bound HC2.out) hg (fun k hk e => by have := Option.some.inj e; have := hk.2.1; omega))).2.2
    · have h0 : Below w.heap.size w w2 := below_then hWB hWB.size hG2
      exact gb_setCell (p := ⟨w.heap.size, 2, none⟩) (gb_setCell (p := ⟨w.heap.size, 1, none⟩) (gb_setCell (p := ⟨w.heap.size, 0, none⟩) (gb_setCell (p := ⟨rb, 0, none⟩) (row := some rb) (gb_below h0 _) (Or.inl rfl) _) (Or.inr (Nat.le_refl _)) _) (Or.inr (Nat.le_refl _)) _) (Or.inr (Nat.le_refl _)) _
end Go.Proofs.Ytjkgkkopfpkdfaa
