import Derived.Test.YtjkgkkopfpkdfaaNet3
import Derived.Test.YtjkgkkopfpkdfaaWLast
set_option linter.unusedVariables false
set_option linter.unusedSimpArgs false
namespace Go.Proofs.Ytjkgkkopfpkdfaa
open Go.RowKit Go.Conc Go.Proofs.YtjkgkkopfpkdfaaW.PrintWords Go.Proofs.YtjkgkkopfpkdfaaW.PrintLast

theorem gb_below_at {a b c : World} {row : Option Nat} {ob : Nat} (h : a.grownBy b row) (k : Below ob b c) (ho : a.heap.size ≤ ob) : a.grownBy c row :=
  ⟨k.os.trans h.os, k.tape.trans h.tape, k.output.trans h.output, Nat.le_trans h.size k.size, fun i hi hne => (k.block i (by omega)).trans (h.block i hi hne)⟩

/-- A packet's value: its bytes lie in a block of their own from base on. -/
def PkAt (w : World) (base : Nat) (v : Value) (p : Pkt) : Prop := ∃ sv, v = .agg #[.int .i64 p.f, .int .i64 p.t, sv] ∧ Kd.R (Kd.int .u8) 5 w base (fun _ => True) sv p.d
/-- Its bytes' block. -/
def pkB : Value → Option Nat
  | .agg cs => (cs.getD 2 undef).ownBlock
  | _ => none
theorem PkAt.step {w w' : World} {base : Nat} {v : Value} {p : Pkt} (h : PkAt w base v p) (hm : ∀ k, base ≤ k → pkB v = some k → k < w.heap.size → w'.heap[k]? = w.heap[k]?) : PkAt w' base v p := by
  obtain ⟨sv, rfl, h1⟩ := h
  refine ⟨sv, rfl, ?_⟩
  have h2 : Kd.R (Kd.int .u8) 5 w base (fun k => base ≤ k ∧ pkB (.agg #[.int .i64 p.f, .int .i64 p.t, sv]) = some k) sv p.d := by
    obtain ⟨_, inner, ho, hr⟩ := h1
    exact ⟨fun k hk => ⟨own_base ho k hk, by simpa [pkB] using hk⟩, inner, ho, hr⟩
  exact Kd.R_mono (Kd.R_step h2 (fun k hk hl => hm k hk.1 hk.2 hl)) (fun _ _ => trivial)
theorem PkAt.lower {w : World} {base base' : Nat} {v : Value} {p : Pkt} (h : PkAt w base v p) (hb : base' ≤ base) : PkAt w base' v p := by
  obtain ⟨sv, rfl, h1⟩ := h
  exact ⟨sv, rfl, Kd.R_lower h1 hb⟩
theorem PkAt.block {w : World} {base : Nat} {v : Value} {p : Pkt} (h : PkAt w base v p) : ∀ k, pkB v = some k → base ≤ k ∧ k < w.heap.size := by
  obtain ⟨sv, rfl, h1⟩ := h
  intro k hk
  obtain ⟨inner, ho⟩ := Kd.R_own h1
  have hk' : sv.ownBlock = some k := by simpa [pkB] using hk
  exact ⟨own_base ho k hk', own_lt ho k hk'⟩
theorem PkAt.reads {w : World} {base : Nat} {v : Value} {p : Pkt} (h : PkAt w base v p) :
    ∃ A c, v = .agg #[.int .i64 p.f, .int .i64 p.t, .slice A p.d.length c] ∧ p.d.length ≤ c ∧ Kd.C (Kd.int .u8) w A p.d.length p.d := by
  obtain ⟨sv, rfl, h1⟩ := h
  obtain ⟨A, c, rfl, hl, hr⟩ := Kd.R_reads h1
  exact ⟨A, c, rfl, hl, hr⟩
theorem PkAt.isAgg {w : World} {base : Nat} {v : Value} {p : Pkt} (h : PkAt w base v p) : IsAgg v := by
  obtain ⟨A, c, rfl, _⟩ := h.reads
  exact ⟨_, _, _, _, _, rfl⟩

/-- What is in a net: values and packets. -/
structure PkL (w : World) (base : Nat) (vals : List Value) (L : List Pkt) : Prop where
  len : vals.length = L.length
  at_ : ∀ (i : Nat) (v : Value) (p : Pkt), vals[i]? = some v → L[i]? = some p → PkAt w base v p
  apart : vals.Pairwise fun u v => ∀ k, pkB u = some k → pkB v ≠ some k
theorem PkL.nil (w : World) (base : Nat) : PkL w base [] [] := ⟨rfl, fun i v p h => by simp at h, .nil⟩
theorem PkL.step {w w' : World} {base : Nat} {vals : List Value} {L : List Pkt} (h : PkL w base vals L) (hm : ∀ v ∈ vals, ∀ k, base ≤ k → pkB v = some k → k < w.heap.size → w'.heap[k]? = w.heap[k]?) : PkL w' base vals L :=
  ⟨h.len, fun i v p hv hp => (h.at_ i v p hv hp).step (hm v (List.mem_of_getElem? hv)), h.apart⟩
theorem PkL.grown {w w' : World} {base c : Nat} {vals : List Value} {L : List Pkt} (h : PkL w base vals L) (hg : w.grownBy w' (some c)) (hc : c < base) : PkL w' base vals L :=
  h.step fun _ _ k hb _ hl => hg.block k hl (fun e => by cases e; omega)
theorem PkL.get {w : World} {base : Nat} {vals : List Value} {L : List Pkt} (h : PkL w base vals L) {i : Nat} {v : Value} (hv : vals[i]? = some v) : ∃ p, L[i]? = some p ∧ PkAt w base v p := by
  have hi := (List.getElem?_eq_some_iff.1 hv).1
  rw [h.len] at hi
  exact ⟨L[i], List.getElem?_eq_getElem hi, h.at_ i v L[i] hv (List.getElem?_eq_getElem hi)⟩
theorem PkL.isAgg {w : World} {base : Nat} {vals : List Value} {L : List Pkt} (h : PkL w base vals L) : ∀ v ∈ vals, IsAgg v := by
  intro v hv
  obtain ⟨i, hi⟩ := List.mem_iff_getElem?.1 hv
  obtain ⟨p, _, hp⟩ := h.get hi
  exact hp.isAgg

theorem enter24 (args : Array Value) (w : World) : (callFunc 24 args).run Try.prog w = .ok (.enter 24 args) w :=
  enters_ Try.func24 (by kernel_rfl) rfl args w

theorem keptTo_all (vals : List Value) : ∀ k, k ≤ vals.length → keptTo (fun _ => true) vals k = vals.take k
  | 0, _ => by simp [keptTo]
  | k + 1, h => by
    rw [keptTo, keptTo_all vals k (by omega), List.take_succ_eq_append_getElem (by omega)]
    simp [List.getD_eq_getElem?_getD, List.getElem?_eq_getElem (show k < vals.length by omega)]

set_option maxHeartbeats 1000000 in
theorem all_any (nb c : Nat) (vals : List Value) (L : List Pkt) (w : World) (hn : NetAt w nb c vals) (hcn : c < nb) (hp : PkL w (nb + 1) vals L) (hl : L.length ≤ 256) (hs : ∀ p ∈ L, p.d.length ≤ 140737488351232) :
    Calls Try.prog 19 #[.pointer (some ⟨nb, 0, none⟩)] w fun e w' =>
      ∃ v, e = .returned v ∧ Kd.R kPkt 33 w' w.heap.size (fun _ => True) v L ∧ NetAt w' nb c vals ∧ w.grownBy w' (some c) := by
  obtain ⟨hlt, hlc⟩ := hn.lt
  have hround := round_any nb c vals 24 #[.pointer (some ⟨w.heap.size, 0, none⟩)] (w.alloc (.cells #[.slice none 0 0] 27))
    (hn.below ((Below.refl _ _).alloc (Nat.le_refl _) _)) (by rw [hp.len]; exact hl) hp.isAgg enter24
    (fun k wk => w.grownBy wk (some c) ∧ ∃ v, wk.heap[w.heap.size]? = some (.cells #[v] 27 (0, 0)) ∧ Kd.R kPkt 33 wk (w.heap.size + 1) (fun _ => True) v (L.take k))
    (fun _ => true) ⟨gb_alloc (gb_refl _ _) _, _, blk_new w _, by simpa using Kd.R_nil _ _ _ _ _⟩ ?hJ ?hstep
  case hJ =>
    rintro k w1 w2 ⟨g1, v, b1, r1⟩ g2
    refine ⟨gb_trans g1 g2, v, gb_blk g2 b1 (fun e => by cases e; omega), ?_⟩
    have r2 := Kd.R_mono (ok' := fun k => w.heap.size + 1 ≤ k) (Kd.R_bound r1) (fun k hk => hk.2.1)
    exact Kd.R_mono (Kd.R_grown r2 g2 (fun k hk e => by cases e; omega)) (fun _ _ => trivial)
  case hstep =>
    rintro k wA f t A n cp hk ⟨g1, v, b1, r1⟩ hA1 hA2 hv
    have hget : vals[k]? = some (.agg #[.int .i64 f, .int .i64 t, .slice A n cp]) := by
      rw [List.getElem?_eq_getElem hk]
      rw [List.getD_eq_getElem?_getD, List.getElem?_eq_getElem hk] at hv
      simpa using hv
    obtain ⟨p, hpk, hat⟩ := (hp.grown g1 (by omega)).get hget
    obtain ⟨A', c', e0, hlc', hr'⟩ := hat.reads
    simp only [Value.agg.injEq, Array.mk.injEq, List.cons.injEq, Value.int.injEq, true_and, Value.slice.injEq, and_true] at e0
    obtain ⟨rfl, rfl, rfl, rfl, rfl⟩ := e0
    have hpm : p ∈ L := List.mem_of_getElem? hpk
    have hkl : k < L.length := (List.getElem?_eq_some_iff.1 hpk).1
    have hbl : Below wA.heap.size wA (wA.alloc (.cells #[.int .i64 p.f, .int .i64 p.t, .slice A p.d.length cp] 33)) := (Below.refl _ _).alloc (Nat.le_refl _) _
    refine (all1_any k p.f p.t A cp p.d w.heap.size v (L.take k) _ (blk_alloc b1 _) (Kd.R_below r1 hbl) (Kd.C_below hr' hbl) hlc' (hs p hpm) (by simp; omega)).mono ?_
    rintro e w' ⟨v', rfl, h1, h2, h3, h4⟩
    have hws := g1.size
    have hvl : ∀ k, v.ownBlock = some k → k < wA.heap.size := by
      obtain ⟨inner, hi⟩ := Kd.R_own r1
      exact own_lt hi
    refine ⟨rfl, ⟨gb_below_at (gb_alloc g1 _) h3 (Nat.le_refl _), v', h1, ?_⟩, ?_, ?_, ?_⟩
    · rw [List.take_succ_eq_append_getElem hkl]
      have : L[k] = p := by
        rw [List.getElem?_eq_getElem hkl] at hpk
        simpa using hpk
      rw [this]
      exact h2
    · exact (h3.block nb (by omega)).trans (Below.heap_alloc _ _ _ hA1)
    · exact (h3.block c (by omega)).trans (Below.heap_alloc _ _ _ hA2)
    · have := blk_lt b1
      refine (h4 wA.heap.size (by simp) (by omega) (fun e => by have := hvl _ e.symm; omega)).trans (blk_new wA _)
  have HRD := Lib.hid hround
  clear hround
  have HN := Lib.hid hn
  have HP := Lib.hid hp
  clear hn hp
  go_enter Try.func19, Try.ntmps19
  go_wp2_with fail
  refine HRD.out.mono ?_
  rintro e w1 ⟨rfl, ⟨g1, v, b1, r1⟩, n1⟩
  rw [keptTo_all _ _ (Nat.le_refl _), List.take_length] at n1
  rw [HP.out.len, List.take_length] at r1
  obtain ⟨p0, p1⟩ := cells1 b1
  have HR1 := Lib.hid r1
  have HG1 := Lib.hid g1
  have HN1 := Lib.hid n1
  clear r1 g1 n1 b1
  go_wp2_with fail
  go_ret
  exact ⟨v, rfl, Kd.R_lower HR1.out (by omega), HN1.out, HG1.out⟩
end Go.Proofs.Ytjkgkkopfpkdfaa
