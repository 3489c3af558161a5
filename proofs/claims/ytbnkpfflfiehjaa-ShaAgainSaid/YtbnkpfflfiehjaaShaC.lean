/- The reference's constants; its round is the same one; what is left of a row of words, or bytes, behind a call. -/
import Derived.Test.YtbnkpfflfiehjaaShaR
set_option linter.unusedVariables false
set_option linter.unusedSimpArgs false
namespace Go.Proofs.Ytbnkpfflfiehjaa
open Go.RowKit Go.Proofs.YtbnkpfflfiehjaaW.PrintWords Go.Proofs.YtbnkpfflfiehjaaW.PrintLast
open Go.Proofs.Ytbnkpfflfiehjaa.PShaTells

theorem wcells_size (xs : List (BitVec 32)) : (wcells xs).size = xs.length := by simp [wcells]
theorem wcells_one (xs : List (BitVec 32)) : (wcells xs).all (·.oneCell') = true := by simp [wcells, Value.oneCell']
theorem ArrAt.setRow {w : World} {b : Nat} {t : TypeId} {xs ys : List (BitVec 32)} (h : ArrAt w b t xs) : ArrAt (w.setRow b (wcells ys)) b t ys := setRow_heap w b _ _ t (0, 0) h
theorem ck {w1 w2 : World} (k : Below w1.heap.size w1 w2) {p : Addr} {u : Value} (h : w1.cell? p = some u) : w2.cell? p = some u := by
  by_cases hp : p.block < w1.heap.size
  · rw [k.cell hp]; exact h
  · exfalso
    have : w1.heap[p.block]? = none := by simp; omega
    unfold World.cell? at h
    simp [this] at h
theorem R_addr {d : Kd Int} {e : Nat} {w : World} {base : Nat} {ok : Nat → Prop} {v : Value} {xs : List Int} (h : d.R e w base ok v xs) :
    ∃ A c, v = .slice A xs.length c ∧ xs.length ≤ c ∧ d.C w A xs.length xs ∧ ∀ ad, A = some ad → base ≤ ad.block := by
  obtain ⟨A, c, rfl, hc, hC⟩ := Kd.R_reads h
  obtain ⟨inner, ho⟩ := Kd.R_own h
  exact ⟨A, c, rfl, hc, hC, fun ad e => own_base ho ad.block (by subst e; rfl)⟩
theorem word_at {w w' : World} {A : Option Addr} {xs : List (BitVec 32)} {n : Nat} (h : Kd.C (Kd.int .u32) w A n (xs.map num)) (hl : xs.length = n) (hB : Below w.heap.size w w') (j : Nat) (hj : j < n) :
    ∃ ad, A = some ad ∧ w'.cell? (ad.add j) = some (.int .u32 (num (xs.getD j 0))) := by
  obtain ⟨ad, e, hc⟩ := (Kd.C_below h hB).2.2 (by omega)
  obtain ⟨c, _, hK, hcell⟩ := hc j (num (xs.getD j 0)) (by rw [List.getElem?_map, List.getElem?_eq_getElem (by omega), List.getD_eq_getElem?_getD, List.getElem?_eq_getElem (by omega)]; rfl)
  obtain rfl : c = [.int .u32 (num (xs.getD j 0))] := hK
  have := hcell 0 _ rfl
  exact ⟨ad, e, by simpa [Kd.int, Kd.scalar] using this⟩
theorem ch_eq (e f g : BitVec 32) : (e &&& f) ^^^ (~~~e &&& g) = g ^^^ (e &&& (f ^^^ g)) := by
  apply BitVec.eq_of_getLsbD_eq
  intro i hi
  simp only [BitVec.getLsbD_xor, BitVec.getLsbD_and, BitVec.getLsbD_not]
  cases e.getLsbD i <;> cases f.getLsbD i <;> cases g.getLsbD i <;> simp [hi]
theorem maj_eq (a b c : BitVec 32) : (a &&& b) ^^^ (a &&& c) ^^^ (b &&& c) = (a &&& b) ||| (c &&& (a ||| b)) := by
  apply BitVec.eq_of_getLsbD_eq
  intro i hi
  simp only [BitVec.getLsbD_xor, BitVec.getLsbD_and, BitVec.getLsbD_or]
  cases a.getLsbD i <;> cases b.getLsbD i <;> cases c.getLsbD i <;> rfl

theorem padded_any (cp : Nat) (A : Option Addr) (bs : List (BitVec 8)) (w : World) (hb : Kd.C (Kd.int .u8) w A bs.length (bs.map byt)) (hc : bs.length ≤ cp) (hl : bs.length < 1000000000) :
    Calls Try.prog 18 #[.slice A bs.length cp] w fun e w' => ∃ A2 c2, e = .returned (.slice A2 (pad bs).length c2) ∧ (pad bs).length ≤ c2 ∧ Kd.C (Kd.int .u8) w' A2 (pad bs).length ((pad bs).map byt) ∧ (∀ ad, A2 = some ad → w.heap.size ≤ ad.block) ∧ Below w.heap.size w w' := by
  have e : (bs.map byt).length = bs.length := by simp
  have h := counterpaneref02_padded.calls 100 A cp (bs.map byt) ((pad bs).map byt) w (by rw [e]; exact hb) (by rw [e]; exact hc) (padded_f bs hl)
  rw [e] at h
  refine h.mono ?_
  rintro x w' ⟨v, rfl, hR, hB⟩
  obtain ⟨A2, c2, rfl, h1, h2, h3⟩ := R_addr hR
  rw [List.length_map] at h1 h2
  exact ⟨A2, c2, by rw [List.length_map], h1, h2, h3, hB⟩
theorem words_any (cp : Nat) (A : Option Addr) (bs : List (BitVec 8)) (w : World) (T : List (BitVec 32)) (hT : T = sched bs 64) (hb : Kd.C (Kd.int .u8) w A 64 (bs.map byt)) (hbl : bs.length = 64) (hc : 64 ≤ cp) :
    Calls Try.prog 19 #[.slice A 64 cp] w fun e w' => ∃ A2 c2, e = .returned (.slice A2 64 c2) ∧ 64 ≤ c2 ∧ Kd.C (Kd.int .u32) w' A2 64 (T.map num) ∧ (∀ ad, A2 = some ad → w.heap.size ≤ ad.block) ∧ Below w.heap.size w w' := by
  have e : (bs.map byt).length = 64 := by rw [List.length_map, hbl]
  have h := counterpaneref02_words.calls 100 A cp (bs.map byt) (T.map num) w (by rw [e]; exact hb) (by rw [e]; exact hc) (words_f bs hbl T hT)
  rw [e] at h
  have e2 : (T.map num).length = 64 := by rw [List.length_map, hT, sched_length]
  clear hT
  refine h.mono ?_
  rintro x w' ⟨v, rfl, hR, hB⟩
  obtain ⟨A2, c2, rfl, h1, h2, h3⟩ := R_addr hR
  rw [e2] at h1 h2
  exact ⟨A2, c2, by rw [e2], h1, h2, h3, hB⟩

theorem not_val (x : BitVec 32) : bits BinOp.xor IntKind.u32 (if IntKind.u32.signed = true then -1 else IntKind.u32.max) (num x) = num (~~~x) := by
  rw [show (if IntKind.u32.signed = true then -1 else IntKind.u32.max) = num (BitVec.allOnes 32) from rfl, bits_xor, BitVec.allOnes_xor]
theorem t_val2 (x4 x5 x6 x7 k w : BitVec 32) : ((((num x7 + bits BinOp.xor IntKind.u32 (bits BinOp.xor IntKind.u32 (num (rotr x4 6)) (num (rotr x4 11))) (num (rotr x4 25))) % 4294967296 + bits BinOp.xor IntKind.u32 (bits BinOp.and IntKind.u32 (num x4) (num x5)) (bits BinOp.and IntKind.u32 (bits BinOp.xor IntKind.u32 (if IntKind.u32.signed = true then -1 else IntKind.u32.max) (num x4)) (num x6))) % 4294967296 + num k) % 4294967296 + num w) % 4294967296 = num (x7 + big1 x4 + (x6 ^^^ (x4 &&& (x5 ^^^ x6))) + k + w) := by
  rw [not_val, bits_xor, bits_xor, bits_and, bits_and, bits_xor, num_add, num_add, num_add, num_add, ch_eq]
  rfl
theorem u_val2 (x0 x1 x2 : BitVec 32) : (bits BinOp.xor IntKind.u32 (bits BinOp.xor IntKind.u32 (num (rotr x0 2)) (num (rotr x0 13))) (num (rotr x0 22)) + bits BinOp.xor IntKind.u32 (bits BinOp.xor IntKind.u32 (bits BinOp.and IntKind.u32 (num x0) (num x1)) (bits BinOp.and IntKind.u32 (num x0) (num x2))) (bits BinOp.and IntKind.u32 (num x1) (num x2))) % 4294967296 = num (big0 x0 + ((x0 &&& x1) ||| (x2 &&& (x0 ||| x1)))) := by
  rw [bits_xor, bits_xor, bits_and, bits_and, bits_and, bits_xor, bits_xor, num_add, maj_eq]
  rfl
theorem keep10 {w0 w1 w2 : World} {p0 p1 p2 p3 p5 p6 p7 pw pk : Addr} {u0 u1 u2 u3 u5 u6 u7 uw uk : Value} (k : Below w1.heap.size w1 w2)
    (h : Below w0.heap.size w0 w1 ∧ w1.cell? p0 = some u0 ∧ w1.cell? p1 = some u1 ∧ w1.cell? p2 = some u2 ∧ w1.cell? p3 = some u3 ∧ w1.cell? p5 = some u5 ∧ w1.cell? p6 = some u6 ∧ w1.cell? p7 = some u7 ∧ w1.cell? pw = some uw ∧ w1.cell? pk = some uk) :
    Below w0.heap.size w0 w2 ∧ w2.cell? p0 = some u0 ∧ w2.cell? p1 = some u1 ∧ w2.cell? p2 = some u2 ∧ w2.cell? p3 = some u3 ∧ w2.cell? p5 = some u5 ∧ w2.cell? p6 = some u6 ∧ w2.cell? p7 = some u7 ∧ w2.cell? pw = some uw ∧ w2.cell? pk = some uk := by
  obtain ⟨h, h0, h1, h2, h3, h5, h6, h7, hw, hk⟩ := h
  exact ⟨below_then h h.size k, ck k h0, ck k h1, ck k h2, ck k h3, ck k h5, ck k h6, ck k h7, ck k hw, ck k hk⟩
end Go.Proofs.Ytbnkpfflfiehjaa
