/- SHA-256's padding and sum in plain Lean; arrays of bytes in memory. -/
import Derived.Test.YtbnkpfflfiehjaaShaT
import Derived.Laws.CopyOwn
import Derived.Laws.Rows
import Derived.Laws.Tables
set_option linter.unusedVariables false
set_option linter.unusedSimpArgs false
namespace Go.Proofs.Ytbnkpfflfiehjaa
open Go.RowKit Go.Proofs.YtbnkpfflfiehjaaW.PrintWords Go.Proofs.YtbnkpfflfiehjaaW.PrintLast

/-! ## the plain law -/
def chunk (p : List (BitVec 8)) (i : Nat) : List (BitVec 8) := (p.drop (64 * i)).take 64
/-- The state behind i blocks. -/
def absorb (p : List (BitVec 8)) : Nat → List (BitVec 32)
  | 0 => IV
  | n + 1 => compress K64 (absorb p n) (chunk p n)
/-- The byte of the length's 8, the last first. -/
def lenByte (n : Nat) (k : Nat) : BitVec 8 := BitVec.ofNat 8 (8 * n / 2 ^ (8 * k))
def lenBytes (n : Nat) : List (BitVec 8) := [lenByte n 7, lenByte n 6, lenByte n 5, lenByte n 4, lenByte n 3, lenByte n 2, lenByte n 1, lenByte n 0]
def zeros (n : Nat) : Nat := (119 - n % 64) % 64
/-- Bytes as they are summed. -/
def pad (bs : List (BitVec 8)) : List (BitVec 8) := bs ++ (128#8 :: (List.replicate (zeros bs.length) 0#8 ++ lenBytes bs.length))
def outByte (v : List (BitVec 32)) (i : Nat) : BitVec 8 := (v.getD (i / 4) 0 >>> (24 - i % 4 * 8)).setWidth 8
def out (v : List (BitVec 32)) : List (BitVec 8) := (List.range 32).map (outByte v)
def sum (bs : List (BitVec 8)) : List (BitVec 8) := out (absorb (pad bs) ((pad bs).length / 64))

theorem zipWith_eight (v y : List (BitVec 32)) (hv : v.length = 8) (hy : y.length = 8) : (List.zipWith (· + ·) v y).length = 8 := by simp [hv, hy]
theorem compress_length (ks v : List (BitVec 32)) (bs : List (BitVec 8)) (hv : v.length = 8) : (compress ks v bs).length = 8 := by
  unfold compress
  exact zipWith_eight _ _ hv (rnds_length _ _ _ hv _)
theorem absorb_length (p : List (BitVec 8)) : ∀ n, (absorb p n).length = 8
  | 0 => rfl
  | n + 1 => compress_length _ _ _ (absorb_length p n)
theorem K64_length : K64.length = 64 := rfl
theorem lenBytes_length (n : Nat) : (lenBytes n).length = 8 := rfl
theorem out_length (v : List (BitVec 32)) : (out v).length = 32 := by simp [out]
theorem pad_length (bs : List (BitVec 8)) : (pad bs).length = bs.length + 9 + zeros bs.length := by
  simp [pad, lenBytes_length]; omega
theorem chunk_of_ahead (bs q : List (BitVec 8)) (i : Nat) (h : 64 * i + 64 ≤ bs.length) : chunk (bs ++ q) i = (bs.drop (64 * i)).take 64 := by
  unfold chunk
  rw [List.drop_append_of_le_length (by omega), List.take_append_of_le_length (by simp; omega)]
theorem chunk_length (p : List (BitVec 8)) (i : Nat) (h : 64 * i + 64 ≤ p.length) : (chunk p i).length = 64 := by
  simp [chunk]; omega

/-! ## arrays of bytes in memory -/
def bcells (xs : List (BitVec 8)) : Array Value := (xs.map fun x => Value.int .u8 (byt x)).toArray
def BAt (w : World) (b : Nat) (t : TypeId) (xs : List (BitVec 8)) : Prop := w.heap[b]? = some (.cells (bcells xs) t (0, 0))
theorem BAt.get {w : World} {b : Nat} {t : TypeId} {xs : List (BitVec 8)} (h : BAt w b t xs) (i : Nat) (hi : i < xs.length) :
    w.cell? ⟨b, i, none⟩ = some (.int .u8 (byt (xs.getD i 0))) ∧ w.frozen? ⟨b, i, none⟩ = false := by
  refine ⟨?_, blk_frozen h i⟩
  have := blk_cell h i
  rw [this]
  simp [bcells, List.getElem?_eq_getElem hi, List.getD_eq_getElem?_getD]
theorem BAt.lt {w : World} {b : Nat} {t : TypeId} {xs : List (BitVec 8)} (h : BAt w b t xs) : b < w.heap.size := blk_lt h
theorem BAt.put {w : World} {b : Nat} {t : TypeId} {xs : List (BitVec 8)} (h : BAt w b t xs) (i : Nat) (y : BitVec 8) : BAt (w.setCell ⟨b, i, none⟩ (.int .u8 (byt y))) b t (xs.set i y) := by
  have := blk_set h i (.int .u8 (byt y))
  unfold BAt
  rw [this]
  simp [bcells, List.map_set]
theorem BAt.below' {w w' : World} {b B : Nat} {t : TypeId} {xs : List (BitVec 8)} (h : BAt w b t xs) (hb : b < B) (hB : Below B w w') : BAt w' b t xs := (hB.block b hb).trans h
theorem BAt.other {w : World} {b : Nat} {t : TypeId} {xs : List (BitVec 8)} (h : BAt w b t xs) (p : Addr) (hp : b ≠ p.block) (u : Value) : BAt (w.setCell p u) b t xs := (Below.heap_setCell w p u b hp).trans h
theorem BAt.grown {w w' : World} {b : Nat} {t : TypeId} {xs : List (BitVec 8)} (h : BAt w b t xs) {g : Nat} (hg : w.grownBy w' (some g)) (hne : b ≠ g) : BAt w' b t xs :=
  (hg.block b (blk_lt h) (fun e => hne (Option.some.inj e))).trans h
theorem ArrAt.grown {w w' : World} {b : Nat} {t : TypeId} {xs : List (BitVec 32)} (h : ArrAt w b t xs) {g : Nat} (hg : w.grownBy w' (some g)) (hne : b ≠ g) : ArrAt w' b t xs :=
  (hg.block b (blk_lt h) (fun e => hne (Option.some.inj e))).trans h
theorem addr_add (b i j : Nat) : (⟨b, i, none⟩ : Addr).add j = ⟨b, i + j, none⟩ := by
  unfold Addr.add
  split <;> simp_all
/-- A stretch of it reads as a row of bytes. -/
theorem BAt.C {w : World} {b : Nat} {t : TypeId} {xs : List (BitVec 8)} (h : BAt w b t xs) (off n : Nat) (hn : off + n ≤ xs.length) (hm : n ≤ 9223372036854775807) :
    Kd.C (Kd.int .u8) w (some ⟨b, off, none⟩) n ((((xs.drop off).take n)).map byt) := by
  refine ⟨by simp; omega, hm, fun _ => ⟨_, rfl, fun j x hj => ?_⟩⟩
  rw [List.getElem?_map] at hj
  obtain ⟨y, hy, rfl⟩ := Option.map_eq_some_iff.1 hj
  have hl := (List.getElem?_eq_some_iff.1 hy).1
  simp at hl
  refine ⟨[.int .u8 (byt y)], rfl, rfl, fun k u hk => ?_⟩
  match k, hk with
  | 0, hk =>
    obtain rfl := Option.some.inj hk
    have e := (h.get (off + j) (by omega)).1
    rw [List.getElem?_take_of_lt (by omega), List.getElem?_drop] at hy
    rw [List.getD_eq_getElem?_getD, hy] at e
    have e2 : ((⟨b, off, none⟩ : Addr).add (j * (Kd.int .u8).sz + 0)) = ⟨b, off + j, none⟩ := by rw [addr_add]; simp [Kd.int, Kd.scalar]
    first
      | (rw [e2]; exact e)
      | (rw [addr_add, addr_add]; simpa [Kd.int, Kd.scalar, Nat.add_assoc] using e)
theorem C_first {w : World} {A : Option Addr} {bs : List (BitVec 8)} {m : Nat} (h : Kd.C (Kd.int .u8) w A bs.length (bs.map byt)) (hm : m ≤ bs.length) : Kd.C (Kd.int .u8) w A m ((bs.take m).map byt) := by
  have := Kd.C_take (m := m) (xs := bs.map byt) (by simpa using h) (by simpa using hm)
  rw [← List.map_take] at this
  simpa [hm] using this
theorem C_rest {w : World} {A : Option Addr} {bs : List (BitVec 8)} {m c : Nat} (h : Kd.C (Kd.int .u8) w A bs.length (bs.map byt)) (hm : m ≤ bs.length) (hc : bs.length ≤ c) :
    Kd.C (Kd.int .u8) w (if c = m then A else A.map (·.add m)) (bs.drop m).length ((bs.drop m).map byt) := by
  have := Kd.C_drop (m := m) (c := c) (xs := bs.map byt) (by simpa using h) (by simpa using hm) (by simpa using hc)
  rw [← List.map_drop] at this
  simpa [Kd.int, Kd.scalar] using this
/-- The last blocks: what is left, a byte 128, zeros; then the length's bytes are put, the last first. -/
def lastRow (rm : List (BitVec 8)) : List (BitVec 8) := rm ++ 128#8 :: List.replicate (127 - rm.length) 0#8
def stage (b : List (BitVec 8)) (en n : Nat) : Nat → List (BitVec 8)
  | 0 => b
  | i + 1 => (stage b en n i).set (en - 1 - i) (lenByte n i)
theorem stage_length (b : List (BitVec 8)) (en n : Nat) : ∀ i, (stage b en n i).length = b.length
  | 0 => rfl
  | i + 1 => by simp [stage, stage_length b en n i]
theorem lastRow_length (rm : List (BitVec 8)) (h : rm.length < 128) : (lastRow rm).length = 128 := by simp [lastRow]; omega
theorem byt_len (n i : Nat) : byt (lenByte n i) = ((n : Int) * 8 / 2 ^ (8 * i)) % 256 := by
  unfold byt lenByte
  rw [BitVec.toNat_ofNat]
  rw [Nat.mul_comm]
  simp
theorem stage_take (rm : List (BitVec 8)) (en n : Nat) (h1 : rm.length + 9 ≤ en) (h2 : en ≤ 128) : (stage (lastRow rm) en n 8).take en = rm ++ 128#8 :: (List.replicate (en - 9 - rm.length) 0#8 ++ lenBytes n) := by
  obtain ⟨F, hF⟩ : ∃ F : List (BitVec 8), F = rm ++ 128#8 :: List.replicate (en - 9 - rm.length) 0#8 := ⟨_, rfl⟩
  have hFl : F.length = en - 8 := by rw [hF]; simp; omega
  have e1 : lastRow rm = F ++ ([0#8, 0#8, 0#8, 0#8, 0#8, 0#8, 0#8, 0#8] ++ List.replicate (128 - en) 0#8) := by
    rw [hF, lastRow, List.append_assoc, List.cons_append, show [0#8, 0#8, 0#8, 0#8, 0#8, 0#8, 0#8, 0#8] = List.replicate 8 0#8 from rfl, List.replicate_append_replicate, List.replicate_append_replicate]
    congr 3
    omega
  have e2 : rm ++ 128#8 :: (List.replicate (en - 9 - rm.length) 0#8 ++ lenBytes n) = F ++ lenBytes n := by
    rw [hF, List.append_assoc, List.cons_append]
  rw [e1, e2]
  have i0 : en - 1 - 0 = F.length + 7 := by omega
  have i1 : en - 1 - 1 = F.length + 6 := by omega
  have i2 : en - 1 - 2 = F.length + 5 := by omega
  have i3 : en - 1 - 3 = F.length + 4 := by omega
  have i4 : en - 1 - 4 = F.length + 3 := by omega
  have i5 : en - 1 - 5 = F.length + 2 := by omega
  have i6 : en - 1 - 6 = F.length + 1 := by omega
  have i7 : en - 1 - 7 = F.length + 0 := by omega
  simp only [stage]
  rw [i0, i1, i2, i3, i4, i5, i6, i7]
  have hs : ∀ (G : List (BitVec 8)) (k : Nat) (x : BitVec 8), (F ++ G).set (F.length + k) x = F ++ G.set k x := by
    intro G k x
    rw [List.set_append_right _ _ (by omega), Nat.add_sub_cancel_left]
  rw [hs, hs, hs, hs, hs, hs, hs, hs]
  rw [List.take_append, List.take_of_length_le (by omega)]
  congr 1
  rw [show en - F.length = 8 by omega]
  rfl
theorem pad_split (bs : List (BitVec 8)) (i en : Nat) (h1 : 64 * i ≤ bs.length) (h2 : bs.length < 64 * i + 64) (he : en = if (bs.drop (64 * i)).length ≤ 55 then 64 else 128) :
    pad bs = bs.take (64 * i) ++ (stage (lastRow (bs.drop (64 * i))) en bs.length 8).take en := by
  have hr : (bs.drop (64 * i)).length = bs.length - 64 * i := by simp
  rw [stage_take _ _ _ (by rw [he]; split <;> omega) (by rw [he]; split <;> omega), ← List.append_assoc, List.take_append_drop, pad]
  have : zeros bs.length = en - 9 - (bs.drop (64 * i)).length := by
    unfold zeros
    rw [he, hr]
    split <;> omega
  rw [this]
theorem pad_blocks (bs : List (BitVec 8)) (i en : Nat) (h1 : 64 * i ≤ bs.length) (h2 : bs.length < 64 * i + 64) (he : en = if (bs.drop (64 * i)).length ≤ 55 then 64 else 128) : (pad bs).length = 64 * i + en := by
  have hr : (bs.drop (64 * i)).length = bs.length - 64 * i := by simp
  rw [pad_length]
  unfold zeros
  rw [he, hr]
  split <;> omega
theorem chunk_behind (p a b : List (BitVec 8)) (i q en : Nat) (h : p = a ++ b.take en) (ha : a.length = 64 * i) (hq : 64 * q + 64 ≤ en) : chunk p (i + q) = (b.drop (64 * q)).take 64 := by
  subst h
  unfold chunk
  rw [List.drop_append, List.drop_of_length_le (by omega), List.nil_append, ha, show 64 * (i + q) - 64 * i = 64 * q by omega, List.drop_take, List.take_take]
  congr 1
  omega
def outs (v : List (BitVec 32)) (m : Nat) : List (BitVec 8) := (out v).take m ++ List.replicate (32 - m) 0#8
theorem outs_length (v : List (BitVec 32)) (m : Nat) (h : m ≤ 32) : (outs v m).length = 32 := by simp [outs, out_length]; omega
theorem outs_zero (v : List (BitVec 32)) : outs v 0 = List.replicate 32 0#8 := by simp [outs]
theorem outs_all (v : List (BitVec 32)) : outs v 32 = out v := by simp [outs, List.take_of_length_le (Nat.le_of_eq (out_length v))]
theorem outs_set (v : List (BitVec 32)) (m : Nat) (h : m < 32) : (outs v m).set m (outByte v m) = outs v (m + 1) := by
  unfold outs
  have hl : ((out v).take m).length = m := by simp [out_length]; omega
  rw [show (((out v).take m ++ List.replicate (32 - m) 0#8).set m (outByte v m)) = ((out v).take m ++ List.replicate (32 - m) 0#8).set (((out v).take m).length + 0) (outByte v m) by rw [hl]; rfl, List.set_append_right _ _ (by omega), Nat.add_sub_cancel_left, show 32 - m = (32 - (m + 1)) + 1 by omega, List.replicate_succ, List.set_cons_zero, List.take_succ_eq_append_getElem (by rw [out_length]; exact h), List.append_assoc]
  congr 2
  simp [out]
theorem byt_out (v : List (BitVec 32)) (m : Nat) : byt (outByte v m) = (num (v.getD (m / 4) 0) / 2 ^ (24 - m % 4 * 8)) % 256 := by
  unfold byt outByte num
  rw [BitVec.toNat_setWidth, BitVec.toNat_ushiftRight, Nat.shiftRight_eq_div_pow]
  simp
/-- A whole array, or struct, loaded out of its block. -/
theorem wpList_load_row {P : Program} {w : World} {ops : Array Oper} {rest : List Oper} {o : Oper} {a : Act} {Q : Exit → Act → World → Prop} (hgd : o.guard = none) (p : Operand) (ty : TypeId)
    (ho : o.op = .load ty p) (g : Nat) (hp : a.eval p = .pointer (some ⟨g, 0, none⟩)) (t : TypeId) (cs : Array Value) (fr : Nat × Nat) (d : TypeDesc) (hg : w.heap[g]? = some (.cells cs t fr))
    (hu : P.underlying ty = some d) (hd : (match d with | .struct _ | .array _ _ => true | _ => false) = true) (hi : (P.info? ty).map (·.size) = some cs.size)
    (h : wpList P ops Q rest (a.put o.dst (.agg cs)) w) : wpList P ops Q (o :: rest) a w := by
  refine wpList_plain hgd fun K hK => ?_
  have hrun := run_loadVar_row (P := P) w g t ty cs fr d hg hu hd hi
  unfold Oper.wp
  simp [execOp, ho, hp, Instr.loadAt, Instr.sureAddr, hrun, Result.andThen]
  exact hK _ _ h
theorem wpList_store_row {P : Program} {w : World} {ops : Array Oper} {rest : List Oper} {o : Oper} {a : Act} {Q : Exit → Act → World → Prop} (hgd : o.guard = none) (p x : Operand) (ty : TypeId)
    (ho : o.op = .store ty p x) (g : Nat) (hp : a.eval p = .pointer (some ⟨g, 0, none⟩)) (cells : Array Value) (hx : a.eval x = .agg cells) (t : TypeId) (old : Array Value) (hg : w.heap[g]? = some (.cells old t (0, 0)))
    (hi : (P.info? ty).map (·.size) = some cells.size) (hsz : old.size = cells.size) (h1 : cells.all (·.oneCell') = true) (hds : o.dst = none)
    (h : wpList P ops Q rest a (w.setRow g cells)) : wpList P ops Q (o :: rest) a w := by
  refine wpList_plain hgd fun K hK => ?_
  have hrun := run_storeVar_row (P := P) w g t ty old cells hg hi hsz h1
  unfold Oper.wp
  simp [execOp, ho, hp, hx, Instr.storeAt, Instr.sureAddr, hrun, Result.andThen]
  simpa [Oper.upon, hds, Act.put] using hK _ _ h
theorem results_row {P : Program} {w : World} {fn : Func} {a ty : Nat} (hr : fn.results = #[.cell a ty]) (tmps : Array Value) (g : Nat) (hp : tmps.getD a undef = .pointer (some ⟨g, 0, none⟩)) (t : TypeId) (cs : Array Value) (fr : Nat × Nat) (d : TypeDesc) (hg : w.heap[g]? = some (.cells cs t fr))
    (hu : P.underlying ty = some d) (hd : (match d with | .struct _ | .array _ _ => true | _ => false) = true) (hi : (P.info? ty).map (·.size) = some cs.size) :
    (results fn tmps).run P w = .ok (.agg cs) w := by
  have hrun := run_loadVar_row (P := P) w g t ty cs fr d hg hu hd hi
  rw [Array.getD_eq_getD_getElem?] at hp
  simp [results, hr, hp, hrun, asAddr, Result.andThen]
theorem bcells_size (xs : List (BitVec 8)) : (bcells xs).size = xs.length := by simp [bcells]
theorem bcells_one (xs : List (BitVec 8)) : (bcells xs).all (·.oneCell') = true := by simp [bcells, Value.oneCell']
theorem BAt.setRow {w : World} {b : Nat} {t : TypeId} {xs ys : List (BitVec 8)} (h : BAt w b t xs) : BAt (w.setRow b (bcells ys)) b t ys := setRow_heap w b _ _ t (0, 0) h
end Go.Proofs.Ytbnkpfflfiehjaa
