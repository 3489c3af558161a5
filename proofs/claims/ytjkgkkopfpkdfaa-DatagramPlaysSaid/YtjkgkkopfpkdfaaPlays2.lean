/- DatagramPlays: the reference's net, and its Post. -/
import Derived.Test.YtjkgkkopfpkdfaaPlays1
set_option linter.unusedVariables false
set_option linter.unusedSimpArgs false
namespace Go.Proofs.Ytjkgkkopfpkdfaa
open Go.RowKit Go.Conc Go.Proofs.YtjkgkkopfpkdfaaW.PrintWords Go.Proofs.YtjkgkkopfpkdfaaW.PrintLast

/-- The reference's net: its row, of packets whose bytes lie in rows of their own. -/
def RefOk (w : World) (rb : Nat) (L : List Pkt) : Prop :=
  ∃ v, w.heap[rb]? = some (.cells #[v] 29 (0, 0)) ∧ Kd.R kPkt 33 w (rb + 1) (fun _ => True) v L

/-- The same, with what the rows' blocks may be. -/
def RefOkP (ok : Nat → Prop) (w : World) (rb : Nat) (L : List Pkt) : Prop :=
  ∃ v, w.heap[rb]? = some (.cells #[v] 29 (0, 0)) ∧ Kd.R kPkt 33 w (rb + 1) ok v L
theorem RefOkP.weak {ok : Nat → Prop} {w : World} {rb : Nat} {L : List Pkt} (h : RefOkP ok w rb L) : RefOk w rb L := let ⟨v, a, b⟩ := h; ⟨v, a, Kd.R_mono b (fun _ _ => trivial)⟩
theorem RefOk.strong {w : World} {rb : Nat} {L : List Pkt} (h : RefOk w rb L) : RefOkP (fun k => k < w.heap.size) w rb L := let ⟨v, a, b⟩ := h; ⟨v, a, Kd.R_mono (Kd.R_bound b) (fun _ hk => hk.2.2.1)⟩
theorem RefOkP.mono {ok ok' : Nat → Prop} {w : World} {rb : Nat} {L : List Pkt} (h : RefOkP ok w rb L) (hk : ∀ k, ok k → ok' k) : RefOkP ok' w rb L := let ⟨v, a, b⟩ := h; ⟨v, a, Kd.R_mono b hk⟩
/-- What it stands on is left alone. -/
theorem RefOkP.step {ok : Nat → Prop} {w w' : World} {rb : Nat} {L : List Pkt} (h : RefOkP ok w rb L) (hm : ∀ k, k < w.heap.size → k = rb ∨ ok k → w'.heap[k]? = w.heap[k]?) : RefOkP ok w' rb L := by
  obtain ⟨v, hb, hR⟩ := h
  exact ⟨v, (hm rb (blk_lt hb) (.inl rfl)).trans hb, Kd.R_step hR (fun k hk hl => hm k hl (.inr hk))⟩

theorem RefOk.step {w w' : World} {rb : Nat} {L : List Pkt} (h : RefOk w rb L)
    (hm : ∀ k, k < w.heap.size → (∃ q cells, w.heap[k]? = some (.cells cells q (0, 0)) ∧ (k = rb ∨ q = 33 ∨ q = 5)) → w'.heap[k]? = w.heap[k]?) : RefOk w' rb L := by
  obtain ⟨v, hb, hR⟩ := h
  refine ⟨v, (hm rb (blk_lt hb) ⟨_, _, hb, .inl rfl⟩).trans hb, ?_⟩
  refine Kd.R_mono (Kd.R_step (Kd.R_bound hR) (fun k hk hl => ?_)) (fun _ _ => trivial)
  obtain ⟨_, _, _, q, hq, cells, hc⟩ := hk
  refine hm k hl ⟨q, cells, hc, .inr ?_⟩
  rcases List.mem_cons.1 hq with rfl | hq
  · exact .inl rfl
  · have : q ∈ [5] := hq
    exact .inr (by simpa using this)
theorem RefOk.below {w w' : World} {rb : Nat} {L : List Pkt} (h : RefOk w rb L) (hb : Below w.heap.size w w') : RefOk w' rb L := h.step (fun k hk _ => hb.block k hk)
theorem RefOk.grown {w w' : World} {rb nb c : Nat} {L M : List Pkt} {vals : List Value} (h : RefOk w rb L) (hn : NetOk w nb c vals M) (hg : w.grownBy w' (some c)) : RefOk w' rb L := by
  refine h.step (fun k hk ⟨q, cells, hc, _⟩ => hg.block k hk (fun e => ?_))
  obtain rfl := Option.some.inj e
  obtain ⟨s, r, hch⟩ := hn.net.2
  rw [hc] at hch
  cases hch

/-- A step of the reference's: no block that was there has turned but the net's own and rows of packets. -/
structure RefStep (rb : Nat) (w w' : World) : Prop where
  below : Below rb w w'
  size : w.heap.size ≤ w'.heap.size
  block : ∀ k, k < w.heap.size → k ≠ rb → (∀ cells, w.heap[k]? ≠ some (.cells cells 33 (0, 0))) → w'.heap[k]? = w.heap[k]?

theorem RefStep.of_gb {rb : Nat} {w w' : World} (h : w.grownBy w' (some rb)) (hr : rb < w.heap.size) : RefStep rb w w' :=
  ⟨gb_to_below h (by omega) (fun k e => by have := Option.some.inj e; omega), h.size, fun k hk hne _ => h.block k hk (fun e => hne (Option.some.inj e))⟩

/-- The net of the program stands through it. -/
theorem NetOk.ref {w w' : World} {nb c rb : Nat} {vals : List Value} {L : List Pkt} (h : NetOk w nb c vals L) (hs : RefStep rb w w') (h1 : nb < rb) (h2 : c < rb) (h3 : w.heap[rb]? ≠ none → ∃ v, w.heap[rb]? = some (.cells #[v] 29 (0, 0))) : NetOk w' nb c vals L := by
  refine h.step (hs.below.block nb h1) (hs.below.block c h2) (fun v hv k hb hk hl => ?_)
  obtain ⟨i, hi⟩ := List.mem_iff_getElem?.1 hv
  obtain ⟨p, _, sv, rfl, hR⟩ := h.pk.get hi
  have hk' : sv.ownBlock = some k := by simpa [pkB] using hk
  obtain ⟨cells, hc⟩ := Kd.R_typed hR k hk'
  refine hs.block k hl ?_ ?_
  · rintro rfl
    obtain ⟨v', hv'⟩ := h3 (by rw [hc]; simp)
    rw [hc] at hv'
    injection hv' with hv'
    injection hv' with _ ht
    exact absurd ht (by decide)
  · intro cells' hc'
    rw [hc] at hc'
    injection hc' with hc'
    injection hc' with _ ht
    exact absurd ht (by decide)

set_option maxHeartbeats 2000000 in
theorem refPost (ok : Nat → Prop) (f t : Int) (A : Option Addr) (cp : Nat) (l : List Int) (rb : Nat) (L : List Pkt) (w : World) (hn : RefOkP ok w rb L) (hok : ∀ k, w.heap.size ≤ k → ok k)
    (h : Kd.C (Kd.int .u8) w A l.length l) (hc : l.length ≤ cp) (hl : l.length ≤ 140737488351232) (hL : L.length ≤ 256) :
    Calls Try.prog 16 #[.pointer (some ⟨rb, 0, none⟩), .agg #[.int .i64 f, .int .i64 t, .slice A l.length cp]] w fun e w' =>
      e = .returned (.bool (decide (L.length < 256))) ∧ RefOkP ok w' rb (if L.length < 256 then L ++ [⟨f, t, l⟩] else L) ∧ RefStep rb w w' := by
  obtain ⟨v, hb, hR⟩ := hn
  obtain ⟨AL, cL, rfl⟩ := Kd.R_slice hR
  obtain ⟨r0, _⟩ := cells1 hb
  have hlt := blk_lt hb
  have HC := Lib.hid h
  have HR := Lib.hid hR
  have HBB := Lib.hid hb
  clear h hR hb
  go_enter Try.func16, Try.ntmps16
  by_cases h256 : L.length < 256
  · have d1 : decide ((256 : Int) ≤ (L.length : Int)) = false := decide_eq_false (by omega)
    go_upto_region 3 with (fail)
    have hbx := blk_new w (.cells #[.int .i64 f, .int .i64 t, .slice A l.length cp] 33)
    obtain ⟨p0, p1, p2, _⟩ := cells3 hbx
    have hB1 : Below w.heap.size w (w.alloc (.cells #[.int .i64 f, .int .i64 t, .slice A l.length cp] 33)) := (Below.refl _ _).alloc (Nat.le_refl _) _
    have hr0 : (w.alloc (.cells #[.int .i64 f, .int .i64 t, .slice A l.length cp] 33)).cell? ⟨rb, 0, none⟩ = some (.slice AL L.length cL) := (hB1.cell (p := ⟨rb, 0, none⟩) hlt).trans r0
    have HS := Lib.hid (And.intro hr0 (And.intro p0 (And.intro p1 p2)))
    clear hr0 p0 p1 p2
    refine start_ (S := fun w' => w'.cell? ⟨rb, 0, none⟩ = some (.slice AL L.length cL) ∧ w'.cell? ⟨w.heap.size, 0, none⟩ = some (.int .i64 f) ∧ w'.cell? ⟨w.heap.size, 1, none⟩ = some (.int .i64 t) ∧ w'.cell? ⟨w.heap.size, 2, none⟩ = some (.slice A l.length cp)) (ds := [15, 16, 17, 18]) (n := 19) #[false, false, false, false, false, false, false, false, false, false, false, false, false, false, false, false, false, false, false] rfl rfl rfl ?hS0 (fun hHeld => ?hrun)
    case hS0 => exact HS.out
    case hrun =>
      refine pure_ (i := 0) (N := some 11) (v := ?_) (a' := ?_) #[true, false, false, false, false, false, false, false, false, false, false, false, false, false, false, false, false, false, false] rfl rfl (by kernel_rfl) (fun _ _ _ h => h) (Or.inl ⟨by rfl, ?_⟩) ?_ ?_
      rotate_left
      · intro w'
        go_simp
        with_reducible rfl
      rotate_left
      · simp only [Act.put, List.setIfInBounds_toArray, List.set_cons_zero, List.set_cons_succ, i64_w, i32_w]
        rfl
      refine pure_ (i := 1) (N := some 12) (v := ?_) (a' := ?_) #[true, true, false, false, false, false, false, false, false, false, false, false, false, false, false, false, false, false, false] rfl rfl (by kernel_rfl) (fun _ _ _ h => h) (Or.inl ⟨by rfl, ?_⟩) ?_ ?_
      rotate_left
      · intro w'
        go_simp
        with_reducible rfl
      rotate_left
      · simp only [Act.put, List.setIfInBounds_toArray, List.set_cons_zero, List.set_cons_succ, i64_w, i32_w]
        rfl
      refine pure_ (i := 2) (N := some 13) (v := ?_) (a' := ?_) #[true, true, true, false, false, false, false, false, false, false, false, false, false, false, false, false, false, false, false] rfl rfl (by kernel_rfl) (fun _ _ _ h => h) (Or.inl ⟨by rfl, ?_⟩) ?_ ?_
      rotate_left
      · intro w'
        go_simp
        with_reducible rfl
      rotate_left
      · simp only [Act.put, List.setIfInBounds_toArray, List.set_cons_zero, List.set_cons_succ, i64_w, i32_w]
        rfl
      refine pure_ (i := 3) (N := some 14) (v := ?_) (a' := ?_) #[true, true, true, true, false, false, false, false, false, false, false, false, false, false, false, false, false, false, false] rfl rfl (by kernel_rfl) (fun _ _ _ h => h) (Or.inl ⟨by rfl, ?_⟩) ?_ ?_
      rotate_left
      · intro w'
        go_simp
        with_reducible rfl
      rotate_left
      · simp only [Act.put, List.setIfInBounds_toArray, List.set_cons_zero, List.set_cons_succ, i64_w, i32_w]
        rfl
      refine take_ (i := 4) (N := some 15) (v := ?_) (a' := ?_) #[true, true, true, true, true, false, false, false, false, false, false, false, false, false, false, false, false, false, false] rfl rfl (by kernel_rfl) (fun _ _ _ h => h) (Or.inl ⟨by rfl, ?_⟩) hHeld ?_ ?_
      rotate_left
      · rintro w' ⟨s0, s1, s2, s3⟩
        go_simp
        with_reducible rfl
      rotate_left
      · simp only [Act.put, List.setIfInBounds_toArray, List.set_cons_zero, List.set_cons_succ, i64_w, i32_w]
        rfl
      refine pure_ (i := 5) (N := some 16) (v := ?_) (a' := ?_) #[true, true, true, true, true, true, false, false, false, false, false, false, false, false, false, false, false, false, false] rfl rfl (by kernel_rfl) (fun _ _ _ h => h) (Or.inl ⟨by rfl, ?_⟩) ?_ ?_
      rotate_left
      · intro w'
        go_simp
        with_reducible rfl
      rotate_left
      · simp only [Act.put, List.setIfInBounds_toArray, List.set_cons_zero, List.set_cons_succ, i64_w, i32_w]
        rfl
      refine take_ (i := 6) (N := some 17) (v := ?_) (a' := ?_) #[true, true, true, true, true, true, true, false, false, false, false, false, false, false, false, false, false, false, false] rfl rfl (by kernel_rfl) (fun _ _ _ h => h) (Or.inl ⟨by rfl, ?_⟩) hHeld ?_ ?_
      rotate_left
      · rintro w' ⟨s0, s1, s2, s3⟩
        go_simp
        with_reducible rfl
      rotate_left
      · simp only [Act.put, List.setIfInBounds_toArray, List.set_cons_zero, List.set_cons_succ, i64_w, i32_w]
        rfl
      refine pure_ (i := 7) (N := some 18) (v := ?_) (a' := ?_) #[true, true, true, true, true, true, true, true, false, false, false, false, false, false, false, false, false, false, false] rfl rfl (by kernel_rfl) (fun _ _ _ h => h) (Or.inl ⟨by rfl, ?_⟩) ?_ ?_
      rotate_left
      · intro w'
        go_simp
        with_reducible rfl
      rotate_left
      · simp only [Act.put, List.setIfInBounds_toArray, List.set_cons_zero, List.set_cons_succ, i64_w, i32_w]
        rfl
      refine take_ (i := 8) (N := some 19) (v := ?_) (a' := ?_) #[true, true, true, true, true, true, true, true, true, false, false, false, false, false, false, false, false, false, false] rfl rfl (by kernel_rfl) (fun _ _ _ h => h) (Or.inl ⟨by rfl, ?_⟩) hHeld ?_ ?_
      rotate_left
      · rintro w' ⟨s0, s1, s2, s3⟩
        go_simp
        with_reducible rfl
      rotate_left
      · simp only [Act.put, List.setIfInBounds_toArray, List.set_cons_zero, List.set_cons_succ, i64_w, i32_w]
        rfl
      refine pure_ (i := 10) (N := some 21) (v := ?_) (a' := ?_) #[true, true, true, true, true, true, true, true, true, false, true, false, false, false, false, false, false, false, false] rfl rfl (by kernel_rfl) (fun _ _ _ h => h) (Or.inl ⟨by rfl, ?_⟩) ?_ ?_
      rotate_left
      · intro w'
        go_simp
        with_reducible rfl
      rotate_left
      · simp only [Act.put, List.setIfInBounds_toArray, List.set_cons_zero, List.set_cons_succ, i64_w, i32_w]
        rfl
      refine take_ (i := 11) (N := some 22) (v := ?_) (a' := ?_) #[true, true, true, true, true, true, true, true, true, false, true, true, false, false, false, false, false, false, false] rfl rfl (by kernel_rfl) (fun _ _ _ h => h) (Or.inl ⟨by rfl, ?_⟩) hHeld ?_ ?_
      rotate_left
      · rintro w' ⟨s0, s1, s2, s3⟩
        go_simp
        with_reducible rfl
      rotate_left
      · simp only [Act.put, List.setIfInBounds_toArray, List.set_cons_zero, List.set_cons_succ, i64_w, i32_w]
        rfl
      refine one_ (i := 9) (N := some 20) #[true, true, true, true, true, true, true, true, true, true, true, true, false, false, false, false, false, false, false] rfl rfl (by kernel_rfl) (by decide) (fun K hK => ?_)
      refine value_ (by rfl) rfl (by go_simp; first | rfl | exact ⟨rfl, rfl⟩) ?_
      refine hK.out _ _ (keep_alloc4 HS.out _) (fun hHeld1 => ?_)
      clear hK K
      refine norm_ (a' := ?_) ?_ ?_
      rotate_left
      · show Act.put _ (some 20) _ = _
        simp only [Act.put, List.setIfInBounds_toArray, List.set_cons_zero, List.set_cons_succ, i64_w, i32_w]
        rfl
      refine one_ (i := 12) (N := some 23) #[true, true, true, true, true, true, true, true, true, true, true, true, true, false, false, false, false, false, false] rfl rfl (by kernel_rfl) (by decide) (fun K hK => ?_)
      refine Kd.R_append_rows_step (w0 := w) (Kd.int .u8) (Rr := fun x cs => cs = [.int .u8 x]) w.heap.size (by rfl) _ _ 31 5 (.int .u8 0) 1 (by rfl) Try.underlying31 infoU8 rfl (by decide) (by decide) (.slice (some ⟨w.heap.size + 1, 0, none⟩) 0 0) [] l A l.length cp (fun _ => True) (fun _ => False) (by rfl) (by rfl) ?ho ?hr (fun x cs h => h) (fun _ h => h.elim) (fun _ _ => trivial) ?hb ?hbase ?hl ?hk
      case ho =>
        have this := World.ownsRow_made (base := w.heap.size) (e := 5) (size := 1) (w.alloc (.cells #[.int .i64 f, .int .i64 t, .slice A l.length cp] 33)).drew #[] 0 (by simp) (by decide) rfl
        rw [show (w.alloc (.cells #[.int .i64 f, .int .i64 t, .slice A l.length cp] 33)).drew.heap.size = w.heap.size + 1 by simp] at this
        exact Kd.R_of_own this (fun _ _ => trivial)
      case hr => exact Kd.C_below HC.out (hB1.drew.alloc (by simp) _)
      case hb => exact hB1.drew.alloc (by simp) _
      case hbase => simp; omega
      case hl => simp; omega
      intro v1 w1 hR1 hBB hg1 hat1
      rw [List.nil_append] at hR1
      have hb1 : w1.heap[w.heap.size]? = some (.cells #[.int .i64 f, .int .i64 t, .slice A l.length cp] 33 (0, 0)) :=
        gb_blk hg1 (blk_alloc (w := (w.alloc (.cells #[.int .i64 f, .int .i64 t, .slice A l.length cp] 33)).drew) hbx _) (fun e => absurd e (by simp [Value.ownBlock]))
      have hz1 := hg1.size
      simp at hz1
      obtain ⟨p0, p1, p2, _⟩ := cells3 hb1
      obtain ⟨A1, c1, rfl⟩ := Kd.R_slice hR1
      have hS1 := And.intro ((hBB.cell (p := ⟨rb, 0, none⟩) hlt).trans r0) (And.intro p0 (And.intro p1 p2))
      have HR1 := Lib.hid hR1
      have HB1 := Lib.hid hBB
      clear p0 p1 p2 hR1 hBB hg1 hat1 hb1
      refine hK.out _ _ hS1 (fun hHeld2 => ?_)
      clear hK K
      refine norm_ (a' := ?_) ?_ ?_
      rotate_left
      · show Act.put _ (some 23) _ = _
        simp only [Act.put, List.setIfInBounds_toArray, List.set_cons_zero, List.set_cons_succ, i64_w, i32_w]
        rfl
      refine pure_ (i := 13) (N := some 24) (v := ?_) (a' := ?_) #[true, true, true, true, true, true, true, true, true, true, true, true, true, true, false, false, false, false, false] rfl rfl (by kernel_rfl) (fun _ _ _ h => h) (Or.inl ⟨by rfl, ?_⟩) ?_ ?_
      rotate_left
      · intro w'
        go_simp
        with_reducible rfl
      rotate_left
      · simp only [Act.put, List.setIfInBounds_toArray, List.set_cons_zero, List.set_cons_succ, i64_w, i32_w]
        rfl
      refine one_ (i := 14) (N := some 25) #[true, true, true, true, true, true, true, true, true, true, true, true, true, true, true, false, false, false, false] rfl rfl (by kernel_rfl) (by decide) (fun K hK => ?_)
      refine value_ (by rfl) rfl (by go_simp; first | rfl | exact ⟨rfl, rfl⟩) ?_
      refine hK.out _ _ (keep_alloc4 hS1 _) (fun hHeld3 => ?_)
      clear hK K
      refine norm_ (a' := ?_) ?_ ?_
      rotate_left
      · show Act.put _ (some 25) _ = _
        simp only [Act.put, List.setIfInBounds_toArray, List.set_cons_zero, List.set_cons_succ, i64_w, i32_w]
        rfl
      refine tail_list 15 (t := [15, 16, 17, 18]) (fuel := 0) rfl rfl rfl (by kernel_rfl) (by decide) ?_
      have hRv := Kd.R_below HR.out HB1.out
      have ⟨hvb, hvl⟩ : (∀ k, (Value.slice AL L.length cL).ownBlock = some k → rb + 1 ≤ k) ∧ (∀ k, (Value.slice AL L.length cL).ownBlock = some k → k < w.heap.size) := by
        obtain ⟨inner, hi⟩ := Kd.R_own HR.out
        exact ⟨own_base hi, own_lt hi⟩
      refine Kd.R_append kPkt (w0 := w) (rb + 1) rfl _ _ 27 33 (.agg #[.int .i64 0, .int .i64 0, .slice none 0 0]) 40 rfl Try.underlying27 infoPkt rfl (by decide) (by decide) (.slice AL L.length cL) L ⟨f, t, l⟩ [.int .i64 f, .int .i64 t, .slice A1 l.length c1] ok (fun k => ok k ∧ some k ≠ (Value.slice AL L.length cL).ownBlock) rfl rfl ?hp (fun _ h => h) (fun k hk => hok k (by omega)) hRv ?HB ?hb2 ?hl2 ?hk2
      case hp =>
        refine kPkt_mkM ⟨f, t, l⟩ (Kd.R_lower (Kd.R_mono (Kd.R_bound HR1.out) (fun k hk => ⟨hok k hk.2.1, fun e => ?_⟩)) (by omega))
        have := hvl k e.symm
        have := hk.2.1
        omega
      case HB => exact HB1.out.mono (by omega)
      case hb2 => omega
      case hl2 => omega
      case hk2 =>
        intro v2 w2 hR2 hB2 hg2 hat2
        obtain ⟨A2, c2, rfl⟩ := Kd.R_slice hR2
        have hrs : w2.heap[rb]? = some (.cells #[.slice AL L.length cL] 29 (0, 0)) := by
          have h1 := blk_below HBB.out HB1.out
          exact gb_blk hg2 h1 (fun e => by have := hvb rb e.symm; omega)
        have hty : ∀ k, k < w.heap.size → (∀ cells, w.heap[k]? ≠ some (.cells cells 33 (0, 0))) → w2.heap[k]? = w.heap[k]? := by
          intro k hk hnt
          refine (hg2.block k (by have := HB1.out.size; omega) (fun e => ?_)).trans (HB1.out.block k hk)
          obtain ⟨cells, hc⟩ := Kd.R_typed HR.out k e.symm
          exact hnt cells hc
        obtain ⟨p0, p1⟩ := cells1 hrs
        have hz2 : w.heap.size ≤ w2.heap.size := Nat.le_trans HB1.out.size hg2.size
        have HTY := Lib.hid hty
        have HR2 := Lib.hid hR2
        have HB2 := Lib.hid hB2
        have HOB := Lib.hid hrs
        clear hR2 hB2 hrs hg2 hat2 hty hRv HR1 HB1 hS1 hHeld hHeld1 hHeld2 hHeld3 HR HC HBB HS
        go_wp2
        go_ret
        have hR3 : Kd.R kPkt 33 w2 (rb + 1) ok (.slice A2 (L.length + 1) c2) (L ++ [⟨f, t, l⟩]) := by simpa using HR2.out
        refine ⟨by simp [h256], ⟨_, by simpa using blk_set HOB.out 0 (.slice A2 (L.length + 1) c2), ?_⟩, Below.setCell (B := rb) (p := ⟨rb, 0, none⟩) (HB2.out.mono (Nat.le_succ rb)) (Nat.le_refl _) _, by simpa [World.setCell] using hz2, fun k h1 h2 h3 => (Below.heap_setCell _ _ _ _ h2).trans (HTY.out k h1 h3)⟩
        exact Kd.R_mono (Kd.R_far (p := ⟨rb, 0, none⟩) (ok := fun k => ok k ∧ rb + 1 ≤ k) (Kd.R_mono (Kd.R_bound hR3) (fun k hk => ⟨hk.1, hk.2.1⟩)) (fun k hk => by simp only; omega) _) (fun _ hk => hk.1)
  · have d1 : decide ((256 : Int) ≤ (L.length : Int)) = true := decide_eq_true (by omega)
    go_wp2_with fail
    go_ret
    have hB1 : Below w.heap.size w (w.alloc (.cells #[.int .i64 f, .int .i64 t, .slice A l.length cp] 33)) := (Below.refl _ _).alloc (Nat.le_refl _) _
    exact ⟨by simp [h256], RefOkP.step ⟨_, HBB.out, HR.out⟩ (fun k hk _ => hB1.block k hk), hB1.mono (by omega), by simp, fun k hk _ _ => hB1.block k hk⟩
end Go.Proofs.Ytjkgkkopfpkdfaa
