/- The constants of SHA-256, and what hands them back. -/
import Derived.Test.YtnjdighpdcabcaaSa
import Derived.Test.YtnjdighpdcabcaaDa
import Derived.Laws.CopyOwn
import Derived.Laws.Rows
import Derived.Laws.Tables
import Derived.Test.YtnjdighpdcabcaaSha1
import Derived.Deep.CutRange
set_option linter.unusedVariables false
set_option linter.unusedSimpArgs false
namespace Go.Proofs.Ytnjdighpdcabcaa
open Go.RowKit Go.Proofs.YtnjdighpdcabcaaW.PrintWords Go.Proofs.YtnjdighpdcabcaaW.PrintLast

def K64 : List (BitVec 32) := [0x428a2f98#32, 0x71374491#32, 0xb5c0fbcf#32, 0xe9b5dba5#32, 0x3956c25b#32, 0x59f111f1#32, 0x923f82a4#32, 0xab1c5ed5#32, 0xd807aa98#32, 0x12835b01#32, 0x243185be#32, 0x550c7dc3#32, 0x72be5d74#32, 0x80deb1fe#32, 0x9bdc06a7#32, 0xc19bf174#32, 0xe49b69c1#32, 0xefbe4786#32, 0x0fc19dc6#32, 0x240ca1cc#32, 0x2de92c6f#32, 0x4a7484aa#32, 0x5cb0a9dc#32, 0x76f988da#32, 0x983e5152#32, 0xa831c66d#32, 0xb00327c8#32, 0xbf597fc7#32, 0xc6e00bf3#32, 0xd5a79147#32, 0x06ca6351#32, 0x14292967#32, 0x27b70a85#32, 0x2e1b2138#32, 0x4d2c6dfc#32, 0x53380d13#32, 0x650a7354#32, 0x766a0abb#32, 0x81c2c92e#32, 0x92722c85#32, 0xa2bfe8a1#32, 0xa81a664b#32, 0xc24b8b70#32, 0xc76c51a3#32, 0xd192e819#32, 0xd6990624#32, 0xf40e3585#32, 0x106aa070#32, 0x19a4c116#32, 0x1e376c08#32, 0x2748774c#32, 0x34b0bcb5#32, 0x391c0cb3#32, 0x4ed8aa4a#32, 0x5b9cca4f#32, 0x682e6ff3#32, 0x748f82ee#32, 0x78a5636f#32, 0x84c87814#32, 0x8cc70208#32, 0x90befffa#32, 0xa4506ceb#32, 0xbef9a3f7#32, 0xc67178f2#32]
def IV : List (BitVec 32) := [0x6a09e667#32, 0xbb67ae85#32, 0x3c6ef372#32, 0xa54ff53a#32, 0x510e527f#32, 0x9b05688c#32, 0x1f83d9ab#32, 0x5be0cd19#32]

set_option maxRecDepth 100000 in
set_option maxHeartbeats 4000000 in
theorem table_any (w : World) :
    Calls Try.prog 62 #[] w fun e w' => ∃ kb, e = .returned (.pointer (some ⟨kb, 0, none⟩)) ∧ ArrAt w' kb 85 K64 ∧ w.heap.size ≤ kb ∧ Below w.heap.size w w' := by
  go_enter Try.func62, Try.ntmps62
  go_wp2_with fail
  go_ret
  exact ⟨_, rfl, blk_new w _, Nat.le_refl _, (Below.refl _ _).alloc (Nat.le_refl _) _⟩
end Go.Proofs.Ytnjdighpdcabcaa
/- SHA-256's padding and sum in plain Lean; arrays of bytes in memory. -/
set_option linter.unusedVariables false
set_option linter.unusedSimpArgs false
namespace Go.Proofs.Ytnjdighpdcabcaa
open Go.RowKit Go.Proofs.YtnjdighpdcabcaaW.PrintWords Go.Proofs.YtnjdighpdcabcaaW.PrintLast

/-! ## the plain law -/
def chunk (p : List (BitVec 8)) (i : Nat) : List (BitVec 8) := (p.drop (64 * i)).take 64
/-- The state behind i blocks. -/
def absorb (p : List (BitVec 8)) : Nat → List (BitVec 32)
  | 0 => IV
  | n + 1 => compress K64 (absorb p n) (chunk p n)
/-- The byte of the length's 8, the last first. -/
def lenByte (n : Nat) (k : Nat) : BitVec 8 := BitVec.ofNat 8 (8 * n / 2 ^ (8 * k))
def lenBytes (n : Nat) : List (BitVec 8) := [lenByte n 7, lenByte n 6, lenByte n 5, lenByte n 4, lenByte n 3, lenByte n 2, lenByte n 1, lenByte n 0]
def zeros (n : Nat) : Nat := (119 - n % 64) % 64
/-- Bytes as they are summed. -/
def pad (bs : List (BitVec 8)) : List (BitVec 8) := bs ++ (128#8 :: (List.replicate (zeros bs.length) 0#8 ++ lenBytes bs.length))
def outByte (v : List (BitVec 32)) (i : Nat) : BitVec 8 := (v.getD (i / 4) 0 >>> (24 - i % 4 * 8)).setWidth 8
def out (v : List (BitVec 32)) : List (BitVec 8) := (List.range 32).map (outByte v)
def sum (bs : List (BitVec 8)) : List (BitVec 8) := out (absorb (pad bs) ((pad bs).length / 64))

theorem zipWith_eight (v y : List (BitVec 32)) (hv : v.length = 8) (hy : y.length = 8) : (List.zipWith (· + ·) v y).length = 8 := by simp [hv, hy]
theorem compress_length (ks v : List (BitVec 32)) (bs : List (BitVec 8)) (hv : v.length = 8) : (compress ks v bs).length = 8 := by
  unfold compress
  exact zipWith_eight _ _ hv (rnds_length _ _ _ hv _)
theorem absorb_length (p : List (BitVec 8)) : ∀ n, (absorb p n).length = 8
  | 0 => rfl
  | n + 1 => compress_length _ _ _ (absorb_length p n)
theorem K64_length : K64.length = 64 := rfl
theorem lenBytes_length (n : Nat) : (lenBytes n).length = 8 := rfl
theorem out_length (v : List (BitVec 32)) : (out v).length = 32 := by simp [out]
theorem pad_length (bs : List (BitVec 8)) : (pad bs).length = bs.length + 9 + zeros bs.length := by
  simp [pad, lenBytes_length]; omega
theorem chunk_of_ahead (bs q : List (BitVec 8)) (i : Nat) (h : 64 * i + 64 ≤ bs.length) : chunk (bs ++ q) i = (bs.drop (64 * i)).take 64 := by
  unfold chunk
  rw [List.drop_append_of_le_length (by omega), List.take_append_of_le_length (by simp; omega)]
theorem chunk_length (p : List (BitVec 8)) (i : Nat) (h : 64 * i + 64 ≤ p.length) : (chunk p i).length = 64 := by
  simp [chunk]; omega

/-! ## arrays of bytes in memory -/
def bcells (xs : List (BitVec 8)) : Array Value := (xs.map fun x => Value.int .u8 (byt x)).toArray
def BAt (w : World) (b : Nat) (t : TypeId) (xs : List (BitVec 8)) : Prop := w.heap[b]? = some (.cells (bcells xs) t (0, 0))
theorem BAt.get {w : World} {b : Nat} {t : TypeId} {xs : List (BitVec 8)} (h : BAt w b t xs) (i : Nat) (hi : i < xs.length) :
    w.cell? ⟨b, i, none⟩ = some (.int .u8 (byt (xs.getD i 0))) ∧ w.frozen? ⟨b, i, none⟩ = false := by
  refine ⟨?_, blk_frozen h i⟩
  have := blk_cell h i
  rw [this]
  simp [bcells, List.getElem?_eq_getElem hi, List.getD_eq_getElem?_getD]
theorem BAt.lt {w : World} {b : Nat} {t : TypeId} {xs : List (BitVec 8)} (h : BAt w b t xs) : b < w.heap.size := blk_lt h
theorem BAt.put {w : World} {b : Nat} {t : TypeId} {xs : List (BitVec 8)} (h : BAt w b t xs) (i : Nat) (y : BitVec 8) : BAt (w.setCell ⟨b, i, none⟩ (.int .u8 (byt y))) b t (xs.set i y) := by
  have := blk_set h i (.int .u8 (byt y))
  unfold BAt
  rw [this]
  simp [bcells, List.map_set]
theorem BAt.below' {w w' : World} {b B : Nat} {t : TypeId} {xs : List (BitVec 8)} (h : BAt w b t xs) (hb : b < B) (hB : Below B w w') : BAt w' b t xs := (hB.block b hb).trans h
theorem BAt.other {w : World} {b : Nat} {t : TypeId} {xs : List (BitVec 8)} (h : BAt w b t xs) (p : Addr) (hp : b ≠ p.block) (u : Value) : BAt (w.setCell p u) b t xs := (Below.heap_setCell w p u b hp).trans h
theorem BAt.grown {w w' : World} {b : Nat} {t : TypeId} {xs : List (BitVec 8)} (h : BAt w b t xs) {g : Nat} (hg : w.grownBy w' (some g)) (hne : b ≠ g) : BAt w' b t xs :=
  (hg.block b (blk_lt h) (fun e => hne (Option.some.inj e))).trans h
theorem ArrAt.grown {w w' : World} {b : Nat} {t : TypeId} {xs : List (BitVec 32)} (h : ArrAt w b t xs) {g : Nat} (hg : w.grownBy w' (some g)) (hne : b ≠ g) : ArrAt w' b t xs :=
  (hg.block b (blk_lt h) (fun e => hne (Option.some.inj e))).trans h
theorem addr_add (b i j : Nat) : (⟨b, i, none⟩ : Addr).add j = ⟨b, i + j, none⟩ := by
  unfold Addr.add
  split <;> simp_all
/-- A stretch of it reads as a row of bytes. -/
theorem BAt.C {w : World} {b : Nat} {t : TypeId} {xs : List (BitVec 8)} (h : BAt w b t xs) (off n : Nat) (hn : off + n ≤ xs.length) (hm : n ≤ 9223372036854775807) :
    Kd.C (Kd.int .u8) w (some ⟨b, off, none⟩) n ((((xs.drop off).take n)).map byt) := by
  refine ⟨by simp; omega, hm, fun _ => ⟨_, rfl, fun j x hj => ?_⟩⟩
  rw [List.getElem?_map] at hj
  obtain ⟨y, hy, rfl⟩ := Option.map_eq_some_iff.1 hj
  have hl := (List.getElem?_eq_some_iff.1 hy).1
  simp at hl
  refine ⟨[.int .u8 (byt y)], rfl, rfl, fun k u hk => ?_⟩
  match k, hk with
  | 0, hk =>
    obtain rfl := Option.some.inj hk
    have e := (h.get (off + j) (by omega)).1
    rw [List.getElem?_take_of_lt (by omega), List.getElem?_drop] at hy
    rw [List.getD_eq_getElem?_getD, hy] at e
    have e2 : ((⟨b, off, none⟩ : Addr).add (j * (Kd.int .u8).sz + 0)) = ⟨b, off + j, none⟩ := by rw [addr_add]; simp [Kd.int, Kd.scalar]
    first
      | (rw [e2]; exact e)
      | (rw [addr_add, addr_add]; simpa [Kd.int, Kd.scalar, Nat.add_assoc] using e)
theorem C_first {w : World} {A : Option Addr} {bs : List (BitVec 8)} {m : Nat} (h : Kd.C (Kd.int .u8) w A bs.length (bs.map byt)) (hm : m ≤ bs.length) : Kd.C (Kd.int .u8) w A m ((bs.take m).map byt) := by
  have := Kd.C_take (m := m) (xs := bs.map byt) (by simpa using h) (by simpa using hm)
  rw [← List.map_take] at this
  simpa [hm] using this
theorem C_rest {w : World} {A : Option Addr} {bs : List (BitVec 8)} {m c : Nat} (h : Kd.C (Kd.int .u8) w A bs.length (bs.map byt)) (hm : m ≤ bs.length) (hc : bs.length ≤ c) :
    Kd.C (Kd.int .u8) w (if c = m then A else A.map (·.add m)) (bs.drop m).length ((bs.drop m).map byt) := by
  have := Kd.C_drop (m := m) (c := c) (xs := bs.map byt) (by simpa using h) (by simpa using hm) (by simpa using hc)
  rw [← List.map_drop] at this
  simpa [Kd.int, Kd.scalar] using this
/-- The last blocks: what is left, a byte 128, zeros; then the length's bytes are put, the last first. -/
def lastRow (rm : List (BitVec 8)) : List (BitVec 8) := rm ++ 128#8 :: List.replicate (127 - rm.length) 0#8
def stage (b : List (BitVec 8)) (en n : Nat) : Nat → List (BitVec 8)
  | 0 => b
  | i + 1 => (stage b en n i).set (en - 1 - i) (lenByte n i)
theorem stage_length (b : List (BitVec 8)) (en n : Nat) : ∀ i, (stage b en n i).length = b.length
  | 0 => rfl
  | i + 1 => by simp [stage, stage_length b en n i]
theorem lastRow_length (rm : List (BitVec 8)) (h : rm.length < 128) : (lastRow rm).length = 128 := by simp [lastRow]; omega
theorem byt_len (n i : Nat) : byt (lenByte n i) = ((n : Int) * 8 / 2 ^ (8 * i)) % 256 := by
  unfold byt lenByte
  rw [BitVec.toNat_ofNat]
  rw [Nat.mul_comm]
  simp
theorem stage_take (rm : List (BitVec 8)) (en n : Nat) (h1 : rm.length + 9 ≤ en) (h2 : en ≤ 128) : (stage (lastRow rm) en n 8).take en = rm ++ 128#8 :: (List.replicate (en - 9 - rm.length) 0#8 ++ lenBytes n) := by
  obtain ⟨F, hF⟩ : ∃ F : List (BitVec 8), F = rm ++ 128#8 :: List.replicate (en - 9 - rm.length) 0#8 := ⟨_, rfl⟩
  have hFl : F.length = en - 8 := by rw [hF]; simp; omega
  have e1 : lastRow rm = F ++ ([0#8, 0#8, 0#8, 0#8, 0#8, 0#8, 0#8, 0#8] ++ List.replicate (128 - en) 0#8) := by
    rw [hF, lastRow, List.append_assoc, List.cons_append, show [0#8, 0#8, 0#8, 0#8, 0#8, 0#8, 0#8, 0#8] = List.replicate 8 0#8 from rfl, List.replicate_append_replicate, List.replicate_append_replicate]
    congr 3
    omega
  have e2 : rm ++ 128#8 :: (List.replicate (en - 9 - rm.length) 0#8 ++ lenBytes n) = F ++ lenBytes n := by
    rw [hF, List.append_assoc, List.cons_append]
  rw [e1, e2]
  have i0 : en - 1 - 0 = F.length + 7 := by omega
  have i1 : en - 1 - 1 = F.length + 6 := by omega
  have i2 : en - 1 - 2 = F.length + 5 := by omega
  have i3 : en - 1 - 3 = F.length + 4 := by omega
  have i4 : en - 1 - 4 = F.length + 3 := by omega
  have i5 : en - 1 - 5 = F.length + 2 := by omega
  have i6 : en - 1 - 6 = F.length + 1 := by omega
  have i7 : en - 1 - 7 = F.length + 0 := by omega
  simp only [stage]
  rw [i0, i1, i2, i3, i4, i5, i6, i7]
  have hs : ∀ (G : List (BitVec 8)) (k : Nat) (x : BitVec 8), (F ++ G).set (F.length + k) x = F ++ G.set k x := by
    intro G k x
    rw [List.set_append_right _ _ (by omega), Nat.add_sub_cancel_left]
  rw [hs, hs, hs, hs, hs, hs, hs, hs]
  rw [List.take_append, List.take_of_length_le (by omega)]
  congr 1
  rw [show en - F.length = 8 by omega]
  rfl
theorem pad_split (bs : List (BitVec 8)) (i en : Nat) (h1 : 64 * i ≤ bs.length) (h2 : bs.length < 64 * i + 64) (he : en = if (bs.drop (64 * i)).length ≤ 55 then 64 else 128) :
    pad bs = bs.take (64 * i) ++ (stage (lastRow (bs.drop (64 * i))) en bs.length 8).take en := by
  have hr : (bs.drop (64 * i)).length = bs.length - 64 * i := by simp
  rw [stage_take _ _ _ (by rw [he]; split <;> omega) (by rw [he]; split <;> omega), ← List.append_assoc, List.take_append_drop, pad]
  have : zeros bs.length = en - 9 - (bs.drop (64 * i)).length := by
    unfold zeros
    rw [he, hr]
    split <;> omega
  rw [this]
theorem pad_blocks (bs : List (BitVec 8)) (i en : Nat) (h1 : 64 * i ≤ bs.length) (h2 : bs.length < 64 * i + 64) (he : en = if (bs.drop (64 * i)).length ≤ 55 then 64 else 128) : (pad bs).length = 64 * i + en := by
  have hr : (bs.drop (64 * i)).length = bs.length - 64 * i := by simp
  rw [pad_length]
  unfold zeros
  rw [he, hr]
  split <;> omega
theorem chunk_behind (p a b : List (BitVec 8)) (i q en : Nat) (h : p = a ++ b.take en) (ha : a.length = 64 * i) (hq : 64 * q + 64 ≤ en) : chunk p (i + q) = (b.drop (64 * q)).take 64 := by
  subst h
  unfold chunk
  rw [List.drop_append, List.drop_of_length_le (by omega), List.nil_append, ha, show 64 * (i + q) - 64 * i = 64 * q by omega, List.drop_take, List.take_take]
  congr 1
  omega
def outs (v : List (BitVec 32)) (m : Nat) : List (BitVec 8) := (out v).take m ++ List.replicate (32 - m) 0#8
theorem outs_length (v : List (BitVec 32)) (m : Nat) (h : m ≤ 32) : (outs v m).length = 32 := by simp [outs, out_length]; omega
theorem outs_zero (v : List (BitVec 32)) : outs v 0 = List.replicate 32 0#8 := by simp [outs]
theorem outs_all (v : List (BitVec 32)) : outs v 32 = out v := by simp [outs, List.take_of_length_le (Nat.le_of_eq (out_length v))]
theorem outs_set (v : List (BitVec 32)) (m : Nat) (h : m < 32) : (outs v m).set m (outByte v m) = outs v (m + 1) := by
  unfold outs
  have hl : ((out v).take m).length = m := by simp [out_length]; omega
  rw [show (((out v).take m ++ List.replicate (32 - m) 0#8).set m (outByte v m)) = ((out v).take m ++ List.replicate (32 - m) 0#8).set (((out v).take m).length + 0) (outByte v m) by rw [hl]; rfl, List.set_append_right _ _ (by omega), Nat.add_sub_cancel_left, show 32 - m = (32 - (m + 1)) + 1 by omega, List.replicate_succ, List.set_cons_zero, List.take_succ_eq_append_getElem (by rw [out_length]; exact h), List.append_assoc]
  congr 2
  simp [out]
theorem byt_out (v : List (BitVec 32)) (m : Nat) : byt (outByte v m) = (num (v.getD (m / 4) 0) / 2 ^ (24 - m % 4 * 8)) % 256 := by
  unfold byt outByte num
  rw [BitVec.toNat_setWidth, BitVec.toNat_ushiftRight, Nat.shiftRight_eq_div_pow]
  simp
/-- A whole array, or struct, loaded out of its block. -/
theorem wpList_load_row {P : Program} {w : World} {ops : Array Oper} {rest : List Oper} {o : Oper} {a : Act} {Q : Exit → Act → World → Prop} (hgd : o.guard = none) (p : Operand) (ty : TypeId)
    (ho : o.op = .load ty p) (g : Nat) (hp : a.eval p = .pointer (some ⟨g, 0, none⟩)) (t : TypeId) (cs : Array Value) (fr : Nat × Nat) (d : TypeDesc) (hg : w.heap[g]? = some (.cells cs t fr))
    (hu : P.underlying ty = some d) (hd : (match d with | .struct _ | .array _ _ => true | _ => false) = true) (hi : (P.info? ty).map (·.size) = some cs.size)
    (h : wpList P ops Q rest (a.put o.dst (.agg cs)) w) : wpList P ops Q (o :: rest) a w := by
  refine wpList_plain hgd fun K hK => ?_
  have hrun := run_loadVar_row (P := P) w g t ty cs fr d hg hu hd hi
  unfold Oper.wp
  simp [execOp, ho, hp, Instr.loadAt, Instr.sureAddr, hrun, Result.andThen]
  exact hK _ _ h
theorem wpList_store_row {P : Program} {w : World} {ops : Array Oper} {rest : List Oper} {o : Oper} {a : Act} {Q : Exit → Act → World → Prop} (hgd : o.guard = none) (p x : Operand) (ty : TypeId)
    (ho : o.op = .store ty p x) (g : Nat) (hp : a.eval p = .pointer (some ⟨g, 0, none⟩)) (cells : Array Value) (hx : a.eval x = .agg cells) (t : TypeId) (old : Array Value) (hg : w.heap[g]? = some (.cells old t (0, 0)))
    (hi : (P.info? ty).map (·.size) = some cells.size) (hsz : old.size = cells.size) (h1 : cells.all (·.oneCell') = true) (hds : o.dst = none)
    (h : wpList P ops Q rest a (w.setRow g cells)) : wpList P ops Q (o :: rest) a w := by
  refine wpList_plain hgd fun K hK => ?_
  have hrun := run_storeVar_row (P := P) w g t ty old cells hg hi hsz h1
  unfold Oper.wp
  simp [execOp, ho, hp, hx, Instr.storeAt, Instr.sureAddr, hrun, Result.andThen]
  simpa [Oper.upon, hds, Act.put] using hK _ _ h
theorem results_row {P : Program} {w : World} {fn : Func} {a ty : Nat} (hr : fn.results = #[.cell a ty]) (tmps : Array Value) (g : Nat) (hp : tmps.getD a undef = .pointer (some ⟨g, 0, none⟩)) (t : TypeId) (cs : Array Value) (fr : Nat × Nat) (d : TypeDesc) (hg : w.heap[g]? = some (.cells cs t fr))
    (hu : P.underlying ty = some d) (hd : (match d with | .struct _ | .array _ _ => true | _ => false) = true) (hi : (P.info? ty).map (·.size) = some cs.size) :
    (results fn tmps).run P w = .ok (.agg cs) w := by
  have hrun := run_loadVar_row (P := P) w g t ty cs fr d hg hu hd hi
  rw [Array.getD_eq_getD_getElem?] at hp
  simp [results, hr, hp, hrun, asAddr, Result.andThen]
theorem bcells_size (xs : List (BitVec 8)) : (bcells xs).size = xs.length := by simp [bcells]
theorem bcells_one (xs : List (BitVec 8)) : (bcells xs).all (·.oneCell') = true := by simp [bcells, Value.oneCell']
theorem BAt.setRow {w : World} {b : Nat} {t : TypeId} {xs ys : List (BitVec 8)} (h : BAt w b t xs) : BAt (w.setRow b (bcells ys)) b t ys := setRow_heap w b _ _ t (0, 0) h
end Go.Proofs.Ytnjdighpdcabcaa
/- The walk of sha's Sum. -/
set_option linter.unusedVariables false
set_option linter.unusedSimpArgs false
namespace Go.Proofs.Ytnjdighpdcabcaa
open Go.RowKit Go.Proofs.YtnjdighpdcabcaaW.PrintWords Go.Proofs.YtnjdighpdcabcaaW.PrintLast

def lenOf : Value → Nat
  | .slice _ n _ => n
  | _ => 0

theorem zero128 (L0 : List (BitVec 8)) (hL : L0 = List.replicate 128 0#8) (w : World) : Sem.run Try.prog (zeroValue 99) w = .ok (.agg (bcells L0)) w := by
  subst hL
  have h : (Try.prog.info? 99).map (·.zero) = some (some (.agg (bcells (List.replicate 128 0#8)))) := by kernel_rfl
  obtain ⟨i, hi, hz⟩ := Option.map_eq_some_iff.1 h
  simp [zeroValue, typeInfo, hi, hz]

theorem slice128 (lb q qa : Nat) (hq : qa = 64 * q) (h : qa + 64 ≤ 128) (w : World) : Sem.run Try.prog (Instr.sliceAt 99 (.pointer (some ⟨lb, 0, none⟩)) (some (.int .i64 (qa : Int))) (some (.int .i64 ((qa : Int) + 64))) none) w = .ok (.slice (some ⟨lb, qa, none⟩) 64 (128 - qa)) w := by
  have hu : Try.prog.underlying 99 = some (.array 128 5) := by kernel_rfl
  have : q = 0 ∨ q = 1 := by omega
  rcases this with rfl | rfl
  · obtain rfl : qa = 0 := hq
    simp [Instr.sliceAt, run_underlying hu, Instr.sureAddr, Instr.sliceBounds, Instr.sliceBound, asInt, asIntOf, addr_add]

  · obtain rfl : qa = 64 := hq
    simp [Instr.sliceAt, run_underlying hu, Instr.sureAddr, Instr.sliceBounds, Instr.sliceBound, asInt, asIntOf, addr_add]

theorem copy_bytes {w : World} {A : Option Addr} {rm L : List (BitVec 8)} {lb c dl dc : Nat} {t : TypeId} (hg : BAt w lb t L) (hs : Kd.C (Kd.int .u8) w A rm.length (rm.map byt)) (hd : rm.length ≤ dl) (hl : rm.length ≤ L.length) :
    ∃ w', Sem.run Try.prog (Builtin.copy_ #[32, 32] 3 #[.slice (some ⟨lb, 0, none⟩) dl dc, .slice A rm.length c]) w = .ok (goInt rm.length) w' ∧ BAt w' lb t (rm ++ L.drop rm.length) ∧ Below lb w w' := by
  have hu : Try.prog.underlying 32 = some (.slice 5) := by kernel_rfl
  have hz : (Try.prog.info? 5).map (·.size) = some 1 := by kernel_rfl
  by_cases h0 : rm.length = 0
  · obtain rfl := List.eq_nil_of_length_eq_zero h0
    exact ⟨w, run_copy_none w _ _ _ _ _ _ _ _ _ _ hu hz (by simp), by simpa using hg, Below.refl _ _⟩
  · obtain ⟨ad, rfl, hc⟩ := hs.2.2 (by omega)
    have hrun := run_copy_row (P := Try.prog) w 32 32 3 5 lb 0 dl dc ad rm.length c (bcells L) t (rm.map fun x => Value.int .u8 (byt x)) hu hz hg (by simp [Nat.min_eq_left hd]) ?_ (by simpa [bcells] using hl) (by simp [Value.oneCell'])
    · have e : (rm.map fun x => Value.int .u8 (byt x)).length = rm.length := List.length_map _
      rw [e] at hrun
      refine ⟨_, hrun, ?_, below_setRow (Below.refl _ _) (Nat.le_refl _) _⟩
      unfold BAt
      rw [setRow_heap w lb _ _ t (0, 0) hg]
      simp [bcells, List.map_drop]
    · intro j v hj
      rw [List.getElem?_map] at hj
      obtain ⟨y, hy, rfl⟩ := Option.map_eq_some_iff.1 hj
      obtain ⟨cs, _, hK, hcell⟩ := hc j (byt y) (by rw [List.getElem?_map, hy]; rfl)
      obtain rfl : cs = [.int .u8 (byt y)] := hK
      have := hcell 0 _ rfl
      simpa [Kd.int, Kd.scalar] using this

set_option maxRecDepth 100000 in
set_option maxHeartbeats 4000000 in
theorem sum_any (cp : Nat) (A : Option Addr) (bs : List (BitVec 8)) (w : World)
    (hb : Kd.C (Kd.int .u8) w A bs.length (bs.map byt)) (hc : bs.length ≤ cp) (hl : bs.length < 1000000000) :
    Calls Try.prog 49 #[.slice A bs.length cp] w fun e w' =>
      e = .returned (.agg (bcells (sum bs))) ∧ Below w.heap.size w w' := by
  have HC := Lib.hid hb
  clear hb
  go_enter Try.func49, Try.ntmps49
  go_wp2_with fail
  refine (table_any _).mono ?_
  rintro e w1 ⟨kb, rfl, hk, hkb, hB⟩
  have HK := Lib.hid hk
  have HB := Lib.hid hB
  clear hk hB
  go_wp2_with fail
  have hB1 : Below w.heap.size w w1 := ((Below.refl _ _).alloc (Nat.le_refl _) _).trans (HB.out.mono (by simp))
  have hr1 : BAt w1 w.heap.size 63 (List.replicate 32 0#8) := (HB.out.block _ (by simp)).trans (blk_new w _)
  have hkb2 : w.heap.size < kb := by simp at hkb; omega
  have hk1 := HK.out.lt
  have hrv := hr1.lt
  have hlv := hB1.size
  have hB2 := hB1.alloc hB1.size (.cells (wcells IV) 96)
  have hS2 : Below w1.heap.size w1 (w1.alloc (.cells (wcells IV) 96)) := (Below.refl _ _).alloc (Nat.le_refl _) _
  have HR := Lib.hid (hr1.below' (by have := hr1.lt; exact this) hS2)
  have HK2 := Lib.hid (HK.out.below hS2)
  have HV := Lib.hid (show ArrAt (w1.alloc (.cells (wcells IV) 96)) w1.heap.size 96 IV from blk_new w1 _)
  have HB2 := Lib.hid hB2
  clear hB1 hr1 hB2 hS2 HB HK
  generalize hvb : w1.heap.size = vb at *
  generalize hrb : w.heap.size = rb at *
  have HRB := Lib.hid hrb
  obtain ⟨q, hq⟩ : ∃ q, pad bs = bs ++ q := ⟨_, rfl⟩
  have HQ := Lib.hid hq
  have hl64 : bs.length ≤ 9223372036854775807 := by omega
  clear hq hrb hvb
  go_loopw [0] (fun v wr => ∃ (i : Nat) (A' : Option Addr) (c' : Nat), 64 * i ≤ bs.length ∧ v = .slice A' (bs.drop (64 * i)).length c' ∧ Kd.C (Kd.int .u8) w A' (bs.drop (64 * i)).length ((bs.drop (64 * i)).map byt) ∧ (bs.drop (64 * i)).length ≤ c' ∧ ArrAt wr vb 96 (absorb (pad bs) i) ∧ ArrAt wr kb 85 K64 ∧ BAt wr rb 63 (List.replicate 32 0#8) ∧ Below rb w wr) (fun v _ => lenOf v)
  case atStart => exact ⟨0, A, cp, by omega, rfl, HC.out, hc, HV.out, HK2.out, HR.out, HB2.out⟩
  case round =>
    obtain ⟨i, A', c', hi, rfl, hb, hc', hv, hk, hr, hB⟩ := hrel
    clear HV HK2 HR HB2
    have hdl : (bs.drop (64 * i)).length = bs.length - 64 * i := by simp
    by_cases h64 : 64 * i + 64 ≤ bs.length
    · skip
      --DEV{
      have d1 : decide ((bs.drop (64 * i)).length ≥ 64) = true := decide_eq_true (by omega)
      have HB := Lib.hid hB
      have HK := Lib.hid hk
      have HV := Lib.hid hv
      have HR := Lib.hid hr
      have HC2 := Lib.hid hb
      have HDL := Lib.hid hdl
      have hn64 : 64 ≤ (bs.drop (64 * i)).length := by omega
      have hnmax : (bs.drop (64 * i)).length < 1000000000 := by omega
      clear hB hk hv hr hb hdl
      generalize hdn : (bs.drop (64 * i)).length = dn at *
      go_wp2_with fail
      refine (block_any vb kb c' A' (absorb (pad bs) i) K64 (chunk (pad bs) i) wr HV.out HK.out (absorb_length _ _) K64_length ?hbC ?hbL).mono ?_
      case hbC =>
        rw [HQ.out, chunk_of_ahead bs q i h64]
        have := HC2.out
        rw [← hdn] at this
        exact Kd.C_below (C_first this (by rw [hdn]; exact hn64)) (HB.out.mono (Nat.le_of_eq HRB.out))
      case hbL => exact chunk_length _ _ (by rw [HQ.out, List.length_append]; omega)
      rintro e w2 ⟨rfl, hv2, hg⟩
      have HV2 := Lib.hid hv2
      have HG := Lib.hid hg
      clear hv2 hg
      go_wp2_with fail
      have hsz : rb ≤ wr.heap.size := by have := HB.out.size; rw [HRB.out] at this; exact this
      refine ⟨⟨i + 1, _, _, by omega, by congr 1; rw [← hdn]; simp; omega, ?_, ?_, HV2.out, HK.out.grown HG.out (by omega), HR.out.grown HG.out (by omega), HB.out.grown HG.out hsz (fun k e => by cases e; omega)⟩, by simp [lenOf]; omega⟩
      · have := HC2.out
        rw [← hdn] at this
        have := C_rest (m := 64) this (by omega) (by omega : (bs.drop (64 * i)).length ≤ c')
        rw [List.drop_drop] at this
        exact this
      · rw [← hdn] at hc'
        simp at hc' ⊢
        omega
      --DEV}
    · have hr64 : (bs.drop (64 * i)).length < 64 := by omega
      have HB := Lib.hid hB
      have HK := Lib.hid hk
      have HV := Lib.hid hv
      have HR := Lib.hid hr
      have HC2 := Lib.hid hb
      have HDL := Lib.hid hdl
      clear hB hk hv hr hb hdl
      obtain ⟨rm, hrm⟩ : ∃ rm, rm = bs.drop (64 * i) := ⟨_, rfl⟩
      rw [← hrm] at hc' hr64
      have HRM := Lib.hid hrm
      have hrmax : rm.length < 1000000000 := by omega
      rw [show (bs.drop (64 * i)).length = rm.length by rw [hrm]]
      clear hrm
      go_wp2_with fail
      obtain ⟨L0, hL0⟩ : ∃ L0, L0 = List.replicate 128 0#8 := ⟨_, rfl⟩
      have hz128 : Try.zeroCells99 = bcells (List.replicate 128 0#8) := by kernel_rfl
      rw [hz128, ← hL0]
      have HL0 := Lib.hid hL0
      clear hL0 hz128
      have hg0 : BAt (wr.alloc (.cells (bcells L0) 99)) wr.heap.size 99 L0 := blk_new wr _
      have hA1 : Below wr.heap.size wr (wr.alloc (.cells (bcells L0) 99)) := (Below.refl _ _).alloc (Nat.le_refl _) _
      obtain ⟨w3, hrun, hL, hB3⟩ := copy_bytes (c := c') (dl := 128) (dc := 128) (rm := rm) hg0 (by
        have := HC2.out
        rw [← HRM.out] at this
        exact Kd.C_below this ((HB.out.mono (Nat.le_of_eq HRB.out)).trans (hA1.mono HB.out.size))) (by omega) (by rw [HL0.out]; simp; omega)
      rw [hrun]
      have hlb : rb ≤ wr.heap.size := by have := HB.out.size; rw [HRB.out] at this; exact this
      have lv := HV.out.lt
      have hW3 : Below wr.heap.size wr w3 := hA1.trans hB3
      have HV3 := Lib.hid (HV.out.below' HV.out.lt hW3)
      have HK3 := Lib.hid (HK.out.below' HK.out.lt hW3)
      have HR3 := Lib.hid (HR.out.below' HR.out.lt hW3)
      have HB3 := Lib.hid (HB.out.trans (hW3.mono hlb))
      have hLl : (rm ++ L0.drop rm.length).length = 128 := by rw [HL0.out]; simp; omega
      obtain ⟨c1, c2⟩ := hL.get rm.length (by omega)
      have c3 := hL.lt
      have HL := Lib.hid hL
      clear hL hW3 hA1 hB3 hg0 HB HK HV HR HC2
      generalize hlbe : wr.heap.size = lb at *
      clear hlbe
      obtain ⟨en, hen⟩ : ∃ en : Nat, en = if rm.length ≤ 55 then 64 else 128 := ⟨_, rfl⟩
      have hi1 : (rm.length : Int) < 128 := by omega
      have hen2 : en = 64 ∨ en = 128 := by
        rw [hen]
        split <;> simp
      have HEN := Lib.hid hen
      clear hen
      go_upto_if 35 with (fail)
      go_cut [7] from 33 to 35 (fun c7 wx => c7 = .int .i64 (en : Int) ∧ wx = w3.setCell ⟨lb, rm.length, none⟩ (.int .u8 128))
      case first =>
        go_wp2_with fail
        · go_meet
          refine ⟨?_, rfl⟩
          rw [HEN.out, if_neg (by omega)]
          rfl
        · go_meet
          refine ⟨?_, rfl⟩
          rw [HEN.out, if_pos (by omega)]
          rfl
      case rest =>
        obtain ⟨rfl, rfl⟩ := hcut
        have hL4 := HL.out.put rm.length 128#8
        have eL : (rm ++ L0.drop rm.length).set rm.length 128#8 = lastRow rm := by
          rw [HL0.out]
          rw [List.drop_replicate, show 128 - rm.length = (127 - rm.length) + 1 by omega, List.replicate_succ, show (rm ++ 0#8 :: List.replicate (127 - rm.length) 0#8).set rm.length 128#8 = (rm ++ 0#8 :: List.replicate (127 - rm.length) 0#8).set (rm.length + 0) 128#8 from rfl, List.set_append_right _ _ (by omega), Nat.add_sub_cancel_left]
          rfl
        rw [eL] at hL4
        have HL4 := Lib.hid (show BAt (w3.setCell ⟨lb, rm.length, none⟩ (.int .u8 128)) lb 99 (lastRow rm) from hL4)
        have hW4 : Below lb w3 (w3.setCell ⟨lb, rm.length, none⟩ (.int .u8 128)) := (Below.refl _ _).setCell (p := ⟨lb, rm.length, none⟩) (Nat.le_refl _) _
        have HV4 := Lib.hid (HV3.out.below' lv hW4)
        have HK4 := Lib.hid (HK3.out.below' (by omega) hW4)
        have HR4 := Lib.hid (HR3.out.below' (by omega) hW4)
        have HB4 := Lib.hid (HB3.out.trans (hW4.mono hlb))
        clear hL4 hW4 HV3 HK3 HR3 HB3 HL eL
        generalize w3.setCell ⟨lb, rm.length, none⟩ (.int .u8 128) = w4 at *
        go_wp2_with fail
        go_loopw [36] (fun v wr => ∃ m : Nat, m ≤ 8 ∧ v = .int .i64 m ∧ BAt wr lb 99 (stage (lastRow rm) en bs.length m) ∧ Below lb w4 wr) (fun v _ => 8 - (intOf v).toNat)
        case atStart => exact ⟨0, by omega, rfl, HL4.out, Below.refl _ _⟩
        case round =>
          obtain ⟨m, hm, rfl, hL, hB⟩ := hrel
          by_cases hm8 : m < 8
          · have d1 : decide ((m : Int) < 8) = true := decide_eq_true (by omega)
            obtain ⟨j, hj⟩ : ∃ j, en = j + m + 1 := ⟨en - 1 - m, by omega⟩
            obtain ⟨g0, g1⟩ := hL.get j (by rw [stage_length, lastRow_length _ (by omega)]; omega)
            have g2 := hL.lt
            have HL := Lib.hid hL
            have HB := Lib.hid hB
            clear hL hB
            have hw1 : wrap64 (wrap64 ((en : Int) - 1) - (m : Int)) = (j : Int) := by unfold wrap64; omega
            go_wp2_with fail
            rw [← byt_len]
            refine ⟨⟨m + 1, by omega, by go_num, ?_, HB.out.setCell (p := ⟨lb, j, none⟩) (Nat.le_refl _) _⟩, by simp [intOf]; omega⟩
            have := HL.out.put j (lenByte bs.length m)
            rw [show j = en - 1 - m by omega] at this ⊢
            exact this
          · obtain rfl : m = 8 := by omega
            have hbl : bs.length < 64 * i + 64 := by omega
            have hps := pad_split bs i en hi hbl (by rw [← HRM.out]; exact HEN.out)
            have hpb := pad_blocks bs i en hi hbl (by rw [← HRM.out]; exact HEN.out)
            rw [← HRM.out] at hps
            obtain ⟨lr, hlr⟩ : ∃ lr, lr = stage (lastRow rm) en bs.length 8 := ⟨_, rfl⟩
            have hlrl : lr.length = 128 := by rw [hlr, stage_length, lastRow_length _ (by omega)]
            rw [← hlr] at hL hps
            have HPS := Lib.hid hps
            have HPB := Lib.hid hpb
            have HL5 := Lib.hid hL
            have HV5 := Lib.hid (HV4.out.below' lv hB)
            have HK5 := Lib.hid (HK4.out.below' (by omega) hB)
            have HR5 := Lib.hid (HR4.out.below' (by omega) hB)
            have HB5 := Lib.hid (HB4.out.trans (hB.mono hlb))
            have hlw := hL.lt
            clear hlr hps hpb hL hB HV4 HK4 HR4 HB4 HL4 HL0
            go_wp2_with fail
            go_loopw [9] (fun v wr => ∃ q : Nat, 64 * q ≤ en ∧ v = .int .i64 ((64 * q : Nat) : Int) ∧ ArrAt wr vb 96 (absorb (pad bs) (i + q)) ∧ ArrAt wr kb 85 K64 ∧ BAt wr rb 63 (List.replicate 32 0#8) ∧ BAt wr lb 99 lr ∧ Below rb w wr) (fun v _ => 128 - (intOf v).toNat)
            case atStart => exact ⟨0, by omega, rfl, HV5.out, HK5.out, HR5.out, HL5.out, HB5.out⟩
            case round =>
              obtain ⟨q, hq, rfl, hv, hk, hr, hL, hB⟩ := hrel
              clear HV5 HK5 HR5 HL5 HB5
              have HV := Lib.hid hv
              have HK := Lib.hid hk
              have HR := Lib.hid hr
              have HL := Lib.hid hL
              have HB := Lib.hid hB
              have hlw := hL.lt
              have hsz : rb ≤ wr.heap.size := by have := hB.size; rw [HRB.out] at this; exact this
              clear hv hk hr hL hB
              by_cases hq64 : 64 * q < en
              · have hq2 : 64 * q + 64 ≤ en := by omega
                obtain ⟨qa, hqa⟩ : ∃ qa, qa = 64 * q := ⟨_, rfl⟩
                have HQA := Lib.hid hqa
                rw [← hqa] at hq64 hq2 hq ⊢
                have hq3 : (qa : Int) < (en : Int) := by omega
                have hq4 : (qa : Int) + 64 ≤ 128 := by omega
                clear hqa
                go_wp2_with fail
                rw [slice128 lb q qa HQA.out (by omega)]
                go_wp2_with fail
                refine (block_any vb kb (128 - qa) (some ⟨lb, qa, none⟩) (absorb (pad bs) (i + q)) K64 (chunk (pad bs) (i + q)) wr HV.out HK.out (absorb_length _ _) K64_length ?hbC ?hbL).mono ?_
                case hbC =>
                  rw [chunk_behind (pad bs) (bs.take (64 * i)) lr i q en HPS.out (by simp; omega) (by rw [← HQA.out]; exact hq2), ← HQA.out]
                  exact HL.out.C qa 64 (by omega) (by decide)
                case hbL => exact chunk_length _ _ (by rw [HPB.out]; have := HQA.out; omega)
                rintro e w6 ⟨rfl, hv2, hg⟩
                have HV2 := Lib.hid hv2
                have HG := Lib.hid hg
                clear hv2 hg
                go_wp2_with fail
                refine ⟨?_, ?measure3⟩
                case measure3 => simp [intOf]; omega
                repeat apply Exists.intro
                refine ⟨?rel3, rfl⟩
                have hqq := HQA.out
                exact ⟨q + 1, by omega, by go_num, HV2.out, HK.out.grown HG.out (by omega), HR.out.grown HG.out (by omega), HL.out.grown HG.out (by omega), HB.out.grown HG.out hsz (fun k e => by cases e; omega)⟩
              · have hqe : (pad bs).length / 64 = i + q := by rw [HPB.out]; omega
                obtain ⟨V, hVe⟩ : ∃ V, V = absorb (pad bs) (i + q) := ⟨_, rfl⟩
                have hVl : V.length = 8 := by rw [hVe]; exact absorb_length _ _
                have HV6 := Lib.hid (show ArrAt wr vb 96 V by rw [hVe]; exact HV.out)
                have HVE := Lib.hid (show sum bs = out V by rw [sum, hqe, hVe])
                have hq64' : ¬ ((64 * q : Nat) : Int) < (en : Int) := by omega
                clear hqe hVe HV HPB HPS hbl hlrl
                go_wp2_with fail
                have hA : Below wr.heap.size wr (wr.alloc (.cells (bcells (List.replicate 32 0#8)) 63)) := (Below.refl _ _).alloc (Nat.le_refl _) _
                have HO := Lib.hid (show BAt (wr.alloc (.cells (bcells (List.replicate 32 0#8)) 63)) wr.heap.size 63 (List.replicate 32 0#8) from blk_new wr _)
                have lv2 := HV6.out.lt
                have HV7 := Lib.hid (HV6.out.below' HV6.out.lt hA)
                have HR7 := Lib.hid (HR.out.below' HR.out.lt hA)
                have HB7 := Lib.hid (HB.out.trans (hA.mono hsz))
                clear hA HV6 HR HB HK HL
                generalize hob : wr.heap.size = ob at *
                clear hob
                go_loopw [61] (fun v wr => ∃ m : Nat, m ≤ 32 ∧ v = .int .i64 m ∧ ArrAt wr vb 96 V ∧ BAt wr rb 63 (List.replicate 32 0#8) ∧ BAt wr ob 63 (outs V m) ∧ Below rb w wr) (fun v _ => 32 - (intOf v).toNat)
                case atStart => exact ⟨0, by omega, rfl, HV7.out, HR7.out, by rw [outs_zero]; exact HO.out, HB7.out⟩
                case round =>
                  obtain ⟨m, hm, rfl, hv, hr, ho, hB⟩ := hrel
                  clear HV7 HR7 HO HB7
                  have HV := Lib.hid hv
                  have HR := Lib.hid hr
                  have HO := Lib.hid ho
                  have HB := Lib.hid hB
                  by_cases hm32 : m < 32
                  · have d1 : decide ((m : Int) < 32) = true := decide_eq_true (by omega)
                    have g0 := (hv.get (m / 4) (by omega)).1
                    have g1 := hv.lt
                    obtain ⟨_, p1⟩ := ho.get m (by rw [outs_length _ _ hm]; exact hm32)
                    have p2 := ho.lt
                    have hm1 : (m : Int) < 32 := by omega
                    clear hv hr ho hB
                    go_wp2_with fail
                    rw [show (num (V[m / 4]?.getD 0#32) / 2 ^ (24 - m % 4 * 8) % 256) = byt (outByte V m) by rw [byt_out, List.getD_eq_getElem?_getD]; rfl]
                    refine ⟨⟨m + 1, by omega, by go_num, HV.out.other ⟨ob, m, none⟩ (by show vb ≠ ob; omega) _, HR.out.other ⟨ob, m, none⟩ (by show rb ≠ ob; omega) _, ?_, HB.out.setCell (p := ⟨ob, m, none⟩) hsz _⟩, by simp [intOf]; omega⟩
                    have := HO.out.put m (outByte V m)
                    rw [outs_set _ _ hm32] at this
                    exact this
                  · obtain rfl : m = 32 := by omega
                    have hrb := hr.lt
                    clear hv hr ho hB
                    go_wp2_with (first
                      | refine wpList_load_row rfl (.tmp 10) 63 rfl ob rfl 63 (bcells (outs V 32)) (0, 0) _ HO.out (by rfl) rfl (by rw [bcells_size, outs_length _ _ (Nat.le_refl _)]; rfl) ?_
                      | refine wpList_store_row rfl (.tmp 2) (.tmp 77) 63 rfl rb rfl (bcells (outs V 32)) rfl 63 (bcells (List.replicate 32 0#8)) HR.out (by rw [bcells_size, outs_length _ _ (Nat.le_refl _)]; rfl) (by rw [bcells_size, bcells_size, outs_length _ _ (Nat.le_refl _)]; rfl) (bcells_one _) rfl ?_)
                    refine bodyPost_ret (results_row (P := Try.prog) (fn := Try.f49) (a := 2) (ty := 63) rfl _ rb rfl 63 _ (0, 0) _ HR.out.setRow (by rfl) rfl (by rw [bcells_size, outs_length _ _ (Nat.le_refl _)]; rfl)) rfl ⟨?_, (below_setRow HB.out (Nat.le_refl _) _).mono (Nat.le_of_eq HRB.out)⟩
                    rw [HVE.out, ← outs_all]
end Go.Proofs.Ytnjdighpdcabcaa
