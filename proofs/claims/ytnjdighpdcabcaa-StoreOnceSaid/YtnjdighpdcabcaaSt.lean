/- The store: what Put, Get and Root do to a disk; their walks. -/
import Derived.Test.YtnjdighpdcabcaaDy
import Derived.Test.YtnjdighpdcabcaaSc
import Derived.Test.YtnjdighpdcabcaaSi
import Derived.Test.YtnjdighpdcabcaaPStoreClashx1
import Derived.Lib.ConvBytes
import Derived.Lib.AtoiErrMem
import Derived.Laws.AppendOwn
import Derived.Test.YtnjdighpdcabcaaDs
set_option linter.unusedVariables false
set_option linter.unusedSimpArgs false
namespace Go.Proofs.Ytnjdighpdcabcaa
open Go.RowKit Go.Proofs.YtnjdighpdcabcaaW.PrintWords Go.Proofs.YtnjdighpdcabcaaW.PrintLast Go.Proofs.YtnjdighpdcabcaaW.PrintMore

/-! ## bytes as whole numbers -/
def Wf (l : List Int) : Prop := ∀ x ∈ l, 0 ≤ x ∧ x < 256
def toB (l : List Int) : List (BitVec 8) := l.map fun x => BitVec.ofNat 8 x.toNat
def toS (l : List Int) : ByteArray := strOfNums l
def intsOf (s : ByteArray) : List Int := s.data.toList.map fun b => (b.toNat : Int)
theorem toB_length (l : List Int) : (toB l).length = l.length := by simp [toB]
theorem byt_toB {l : List Int} (h : Wf l) : (toB l).map byt = l := by
  unfold toB
  rw [List.map_map]
  conv => rhs; rw [← List.map_id l]
  refine List.map_congr_left (fun x hx => ?_)
  have := h x hx
  show byt (BitVec.ofNat 8 x.toNat) = x
  unfold byt
  rw [BitVec.toNat_ofNat]
  omega
theorem toS_intsOf (s : ByteArray) : toS (intsOf s) = s := by
  apply bytes_inj
  unfold toS intsOf strOfNums
  apply List.ext_getElem?
  intro i
  simp only [List.map_map, List.getElem?_map]
  cases s.data.toList[i]? <;> simp
theorem intsOf_toS {l : List Int} (h : Wf l) : intsOf (toS l) = l := by
  unfold toS intsOf strOfNums
  apply List.ext_getElem?
  intro i
  have hi : ∀ x, l[i]? = some x → 0 ≤ x ∧ x < 256 := fun x hx => h x (List.mem_of_getElem? hx)
  simp
  cases hl : l[i]? with
  | none => simp
  | some x =>
    have := hi x hl
    simp
    omega
theorem toS_inj {a b : List Int} (ha : Wf a) (hb : Wf b) (h : toS a = toS b) : a = b := by rw [← intsOf_toS ha, h, intsOf_toS hb]
theorem wf_intsOf (s : ByteArray) : Wf (intsOf s) := fun x hx => by
  unfold intsOf at hx
  obtain ⟨b, _, rfl⟩ := List.mem_map.1 hx
  have := b.toNat_lt
  omega
theorem wf_nil : Wf [] := fun x hx => by cases hx
theorem intsOf_length (s : ByteArray) : (intsOf s).length = s.size := by simp [intsOf]
theorem toS_size (l : List Int) : (toS l).size = l.length := by
  unfold toS strOfNums
  show (Array.size _) = _
  simp
theorem eqU8 (a b : ByteArray) : (a.toList == b.toList) = decide (a = b) := by
  rw [ByteArray.toList_eq, ByteArray.toList_eq, Bool.eq_iff_iff, beq_iff_eq, decide_eq_true_iff]
  exact ⟨bytes_inj, fun h => by rw [h]⟩

/-! ## a disk of bytes -/
def WfF (fs : Files) : Prop := ∀ p ∈ fs, Wf p.2
structure WfD (d : D) : Prop where
  now : WfF d.now
  old : WfF d.old
  ch : ∀ c ∈ d.ch, Wf c.t
theorem WfF.put {fs : Files} (h : WfF fs) {s : ByteArray} {t : List Int} (ht : Wf t) : WfF (put fs s t) := fun p hp => by
  rcases (mem_ins _).1 hp with rfl | hp
  · exact ht
  · exact h p (mem_del.1 hp).1
theorem WfF.del {fs : Files} (h : WfF fs) (s : ByteArray) : WfF (del fs s) := fun p hp => h p (mem_del.1 hp).1
theorem WfF.look {fs : Files} (h : WfF fs) {s : ByteArray} : Wf ((look fs s).getD []) := by
  cases hl : Ytnjdighpdcabcaa.look fs s with
  | none => exact wf_nil
  | some t => exact h _ (look_mem hl)
theorem WfF.appl {fs : Files} (h : WfF fs) {c : Chg} (hc : Wf c.t) : WfF (appl fs c) := by
  unfold Ytnjdighpdcabcaa.appl
  split
  · exact h.put hc
  · split
    · cases hl : Ytnjdighpdcabcaa.look fs c.a with
      | none => exact h
      | some t => exact (h.del c.a).put (h _ (look_mem hl))
    · exact h.del c.a
theorem WfF.crash : ∀ {cs : List Chg} {fs : Files} {ks : List Bool}, WfF fs → (∀ c ∈ cs, Wf c.t) → WfF (crashF fs cs ks)
  | [], fs, ks, h, _ => by rw [crashF_nil]; exact h
  | c :: cs, fs, [], h, _ => by rw [crashF_none]; exact h
  | c :: cs, fs, k :: ks, h, hc => by
    rw [crashF]
    refine WfF.crash ?_ (fun c' h' => hc c' (by simp [h']))
    split
    · exact h.appl (hc c (by simp))
    · exact h
section
variable {d : D}
theorem WfD.act (h : WfD d) (code : Int) (c : Chg) (hc : Wf c.t) : WfD (actD d code c) := by
  unfold actD
  split
  · exact ⟨h.now, h.old, h.ch⟩
  · split
    · refine ⟨h.now.appl hc, h.old, fun c' hc' => ?_⟩
      rcases List.mem_append.1 hc' with h' | h'
      · exact h.ch c' h'
      · rw [List.mem_singleton.1 h']
        exact hc
    · exact h
theorem WfD.write (h : WfD d) (s : ByteArray) {l : List Int} (hl : Wf l) : WfD (writeD d s l) := h.act _ _ hl
theorem WfD.rename (h : WfD d) (s t : ByteArray) : WfD (renameD d s t) := h.act _ _ wf_nil
theorem WfD.remove (h : WfD d) (s : ByteArray) : WfD (remD d s) := h.act _ _ wf_nil
theorem WfD.sync (h : WfD d) : WfD (syncD d) := by
  unfold syncD
  split
  · exact ⟨h.now, h.old, h.ch⟩
  · exact ⟨h.now, h.now, fun c hc => by cases hc⟩
theorem WfD.fuseI (h : WfD d) (k : Int) : WfD (fuseD d k) := ⟨h.now, h.old, h.ch⟩
theorem WfD.crash (h : WfD d) (ks : List Bool) : WfD (crashD d ks) := ⟨h.old.crash h.ch, h.old.crash h.ch, fun c hc => by cases hc⟩
theorem WfD.new (room : Int) : WfD (newD room) := ⟨(fun p hp => by cases hp), (fun p hp => by cases hp), (fun c hc => by cases hc)⟩
theorem WfD.read (h : WfD d) (s : ByteArray) : Wf (readB d s) := by
  unfold readB
  split
  · exact wf_nil
  · exact h.now.look
end
theorem readE_cases (d : D) (s : ByteArray) : readE d s = 13 ∨ readE d s = 0 ∨ readE d s = 12 := by
  unfold readE
  split
  · exact .inl rfl
  · split
    · exact .inr (.inl rfl)
    · exact .inr (.inr rfl)

/-! ## what the store does -/
def nameL (l : List Int) : ByteArray := name (toB l)
def fileN (s : ByteArray) : ByteArray := (⟨#[111, 46]⟩ : ByteArray) ++ s.extract 0 32
def rootN : ByteArray := ⟨#[114, 111, 111, 116]⟩
def freshN : ByteArray := ⟨#[114, 111, 111, 116, 46, 110, 101, 119]⟩
theorem name_size64 (bs : List (BitVec 8)) : (name bs).size = 64 := by
  have h : (sum bs).length = 32 := out_length _
  show (hexL (sum bs)).toArray.size = 64
  rw [List.size_toArray, hexL_length, h]
theorem nameL_size (l : List Int) : (nameL l).size = 64 := name_size64 _
theorem fileN_size (s : ByteArray) (h : 32 ≤ s.size) : (fileN s).size = 34 := by
  unfold fileN
  rw [ByteArray.size_append, ByteArray.size_extract]
  show 2 + _ = _
  omega
theorem file_any (s : ByteArray) (h : 32 ≤ s.size) (w : World) : Calls Try.prog 35 #[.string s] w fun e w' => e = .returned (.string (fileN s)) ∧ Below w.heap.size w w' := by
  refine (PStoreClash.store_file.calls s (fileN s) w ?_).mono ?_
  · unfold PStoreClash.store_file.f
    have h2 := fileN_size s h
    unfold fileN at h2 ⊢
    rw [ByteArray.size_append] at h2
    have h3 : (⟨#[111, 46]⟩ : ByteArray).size = 2 := rfl
    rw [if_pos (by decide), if_pos (by omega), if_pos (by omega)]
  · rintro e w' ⟨rfl, hd⟩
    exact ⟨rfl, hd.below⟩
def putE (d : D) (l : List Int) : Int :=
  if readE d (fileN (nameL l)) = 12 then writeE d (fileN (nameL l)) l else if readE d (fileN (nameL l)) = 0 ∧ readB d (fileN (nameL l)) ≠ l then 31 else readE d (fileN (nameL l))
def putD (d : D) (l : List Int) : D := if readE d (fileN (nameL l)) = 12 then writeD d (fileN (nameL l)) l else d
def putN (d : D) (l : List Int) : ByteArray := if putE d l = 0 then nameL l else ⟨#[]⟩
def getE (d : D) (s : ByteArray) : Int :=
  if named s = false then 1 else if readE d (fileN s) ≠ 0 then readE d (fileN s) else if nameL (readB d (fileN s)) ≠ s then 3 else 0
def getB (d : D) (s : ByteArray) : List Int := if getE d s = 0 then readB d (fileN s) else []
def rootE (d : D) : Int := if readE d rootN ≠ 0 then readE d rootN else if named (toS (readB d rootN)) = false then 3 else 0
def rootS (d : D) : ByteArray := if rootE d = 0 then toS (readB d rootN) else ⟨#[]⟩
theorem name_len (n cp : Nat) (A : Option Addr) (l : List Int) (w : World) (hn : l.length = n) (hw : Wf l) (hC : Kd.C (Kd.int .u8) w A n l) (hc : n ≤ cp) (hl : n < 1000000000) :
    Calls Try.prog 34 #[.slice A n cp] w fun e w' => e = .returned (.string (nameL l)) ∧ Below w.heap.size w w' := by
  subst hn
  have h := name_any cp A (toB l) w (by rw [toB_length, byt_toB hw]; exact hC) (by rw [toB_length]; exact hc) (by rw [toB_length]; exact hl)
  rw [toB_length] at h
  exact h
theorem equal_any (A B : Option Addr) (m n c e : Nat) (k l : List Int) (w : World) (hm : k.length = m) (hn : l.length = n) (hk : Wf k) (hl : Wf l) (hK : Kd.C (Kd.int .u8) w A m k) (hL : Kd.C (Kd.int .u8) w B n l) (hc : m ≤ c) (he : n ≤ e) :
    Calls Try.prog 36 #[.slice A m c, .slice B n e] w fun r w' => r = .returned (.bool (decide (k = l))) ∧ Below w.heap.size w w' := by
  subst hm hn
  refine (PStoreClash.bytes_Equal.calls A c k B e l (decide (k = l)) w hK hc hL he ?_).mono ?_
  · unfold PStoreClash.bytes_Equal.f
    rw [eqU8]
    congr 1
    rw [decide_eq_decide]
    exact ⟨fun h => toS_inj hk hl h, fun h => by rw [h]⟩
  · rintro e w' ⟨rfl, hd⟩
    exact ⟨rfl, hd.below⟩
end Go.Proofs.Ytnjdighpdcabcaa
/- The store's Put, Get and Root: their walks. -/
set_option linter.unusedVariables false
set_option linter.unusedSimpArgs false
namespace Go.Proofs.Ytnjdighpdcabcaa
open Go.RowKit Go.Proofs.YtnjdighpdcabcaaW.PrintWords Go.Proofs.YtnjdighpdcabcaaW.PrintLast Go.Proofs.YtnjdighpdcabcaaW.PrintMore

section
variable {w0 w : World} {F : Nat → Prop} {g : Nat} {d : D}
set_option maxRecDepth 100000 in
set_option maxHeartbeats 4000000 in
theorem put_F (h : DiskF w0 w F g d) (hsm : Small d) (hwf : WfD d) (A : Option Addr) (n c : Nat) (l : List Int) (hl : l.length = n) (hw : Wf l) (hC : Kd.C (Kd.int .u8) w A n l) (hc : n ≤ c) (hn : n < 1000000000) :
    Calls Try.prog 13 #[pt g, .slice A n c] w fun r w' => r = .returned (.tuple #[.string (putN d l), .int .i64 (putE d l)]) ∧ DiskF w0 w' F g (putD d l) ∧ Turns (Own w0 F) w w' := by
  obtain ⟨nm, hnm⟩ : ∃ s, s = nameL l := ⟨_, rfl⟩
  obtain ⟨f, hf⟩ : ∃ s, s = fileN nm := ⟨_, rfl⟩
  have hns : nm.size = 64 := by rw [hnm]; exact nameL_size l
  have hfs : f.size = 34 := by rw [hf]; exact fileN_size _ (by omega)
  have hE : putE d l = if readE d f = 12 then writeE d f l else if readE d f = 0 ∧ readB d f ≠ l then 31 else readE d f := by unfold putE; rw [← hnm, ← hf]
  have hD : putD d l = if readE d f = 12 then writeD d f l else d := by unfold putD; rw [← hnm, ← hf]
  have hN : putN d l = if putE d l = 0 then nm else ⟨#[]⟩ := by unfold putN; rw [← hnm]
  have hname : ∀ W, Below w.heap.size w W → Calls Try.prog 34 #[.slice A n c] W fun e w' => e = .returned (.string nm) ∧ Below W.heap.size W w' := fun W hB => by
    rw [hnm]; exact name_len n c A l W hl hw (Kd.C_below hC hB) hc hn
  have hfile : ∀ W, Calls Try.prog 35 #[.string nm] W fun e w' => e = .returned (.string f) ∧ Below W.heap.size W w' := fun W => by
    rw [hf]; exact file_any nm (by omega) W
  have HH := Lib.hid h
  have HS := Lib.hid (And.intro hsm hwf)
  have HL := Lib.hid (And.intro hl (And.intro hw (And.intro hC (And.intro hc hn))))
  have HE := Lib.hid (And.intro hE (And.intro hD hN))
  have HNA := Lib.hid hname
  have HFI := Lib.hid hfile
  have HFS := Lib.hid (And.intro hns hfs)
  have hrc := readE_cases d f
  have HRC := Lib.hid hrc
  obtain ⟨P, hP⟩ : ∃ p, p = putD d l := ⟨_, rfl⟩
  obtain ⟨PE, hPE⟩ : ∃ p, p = putE d l := ⟨_, rfl⟩
  obtain ⟨PN, hPN⟩ : ∃ p, p = putN d l := ⟨_, rfl⟩
  have HPP := Lib.hid (And.intro hP (And.intro hPE hPN))
  rw [← hP, ← hPE, ← hPN]
  clear h hsm hwf hl hw hC hc hE hD hN hname hfile hns hfs hnm hf hrc hP hPE hPN hn
  go_enter Try.func13, Try.ntmps13
  go_wp2_with fail
  refine (HNA.out w (Below.refl _ _)).mono ?_
  rintro r w1 ⟨rfl, hB1⟩
  have HB1 := Lib.hid hB1
  clear hB1
  go_wp2_with fail
  refine (HFI.out w1).mono ?_
  rintro r w2 ⟨rfl, hB2⟩
  have HB2 := Lib.hid (HB1.out.trans (hB2.mono HB1.out.size))
  clear hB2
  go_wp2_with fail
  obtain ⟨RE, hRE⟩ : ∃ e, e = readE d f := ⟨_, rfl⟩
  have hrd := read_F (HH.out.below HB2.out) HS.out.1 f (by have := HFS.out.2; unfold maxLen; omega)
  rw [← hRE] at hrd
  refine hrd.mono ?_
  rintro r w3 ⟨v, rfl, hR, hB3⟩
  obtain ⟨A3, c3, rfl, hc3, hC3⟩ := Kd.R_reads hR
  have HR3 := Lib.hid (And.intro hc3 hC3)
  have HB3 := Lib.hid (HB2.out.trans (hB3.mono HB2.out.size))
  obtain ⟨m, hm⟩ : ∃ m, m = (readB d f).length := ⟨_, rfl⟩
  rw [← hm] at HR3 ⊢
  have HM := Lib.hid hm
  have HRE := Lib.hid hRE
  have hrc := HRC.out
  rw [← hRE] at hrc
  clear hrd hR hB3 hc3 hC3 hm hRE
  rcases hrc with rfl | rfl | rfl
  · go_wp2_with fail
    go_ret2
    have hE : putE d l = 13 := by rw [HE.out.1, ← HRE.out, if_neg (by decide), if_neg (by omega)]
    have hD : putD d l = d := by rw [HE.out.2.1, ← HRE.out]; rfl
    have hN : putN d l = ⟨#[]⟩ := by rw [HE.out.2.2, hE]; rfl
    refine ⟨by rw [HPP.out.2.1, HPP.out.2.2, hE, hN]; try rfl, by rw [HPP.out.1, hD]; exact HH.out.below HB3.out, Turns.of_below HB3.out _⟩
  · have heq := equal_any A3 A m n c3 c (readB d f) l w3 HM.out.symm HL.out.1 (HS.out.2.read f) HL.out.2.1 HR3.out.2 (Kd.C_below HL.out.2.2.1 HB3.out) HR3.out.1 HL.out.2.2.2.1
    obtain ⟨q, hq⟩ : ∃ q, q = decide (readB d f = l) := ⟨_, rfl⟩
    rw [← hq] at heq
    have HEQ := Lib.hid heq
    have HQ := Lib.hid hq
    clear heq hq
    go_wp2_with fail
    refine HEQ.out.mono ?_
    rintro r w4 ⟨rfl, hB4⟩
    have HB4 := Lib.hid (HB3.out.trans (hB4.mono HB3.out.size))
    clear hB4
    have hD : putD d l = d := by rw [HE.out.2.1, ← HRE.out]; rfl
    have HD := Lib.hid hD
    clear hD
    cases q with
    | true =>
      have hb : readB d f = l := of_decide_eq_true HQ.out.symm
      go_wp2_with fail
      go_ret2
      have hE : putE d l = 0 := by rw [HE.out.1, ← HRE.out, if_neg (by decide), if_neg (by rw [hb]; simp)]
      have hN : putN d l = nm := by rw [HE.out.2.2, hE]; rfl
      refine ⟨by rw [HPP.out.2.1, HPP.out.2.2, hE, hN]; try rfl, by rw [HPP.out.1, HD.out]; exact HH.out.below HB4.out, Turns.of_below HB4.out _⟩
    | false =>
      have hb : ¬ readB d f = l := of_decide_eq_false HQ.out.symm
      have HBB := Lib.hid hb
      clear hb
      go_wp2_with fail
      go_ret2
      have hE : putE d l = 31 := by rw [HE.out.1, ← HRE.out, if_neg (by decide), if_pos ⟨rfl, HBB.out⟩]
      have hN : putN d l = ⟨#[]⟩ := by rw [HE.out.2.2, hE]; rfl
      refine ⟨by rw [HPP.out.2.1, HPP.out.2.2, hE, hN]; try rfl, by rw [HPP.out.1, HD.out]; exact HH.out.below HB4.out, Turns.of_below HB4.out _⟩
  · have hD : putD d l = writeD d f l := by rw [HE.out.2.1, ← HRE.out]; rfl
    have hE : putE d l = writeE d f l := by rw [HE.out.1, ← HRE.out]; rfl
    have HDE := Lib.hid (And.intro hD hE)
    clear hD hE
    go_wp2_with fail
    refine (HFI.out w3).mono ?_
    rintro r w4 ⟨rfl, hB4⟩
    have HB4 := Lib.hid (HB3.out.trans (hB4.mono HB3.out.size))
    clear hB4
    go_wp2_with fail
    obtain ⟨WE, hWE⟩ : ∃ e, e = writeE d f l := ⟨_, rfl⟩
    have hwr := write_F (HH.out.below HB4.out) HS.out.1 f (by have := HFS.out.2; unfold maxLen; omega) A n c l HL.out.1 (Kd.C_below HL.out.2.2.1 HB4.out) HL.out.2.2.2.1 (by have := HL.out.2.2.2.2; omega)
    rw [← hWE, ← HDE.out.1, ← HPP.out.1] at hwr
    rw [← HDE.out.2, ← HPP.out.2.1] at hWE
    have HWE := Lib.hid hWE
    refine hwr.mono ?_
    rintro r w5 ⟨rfl, hD5, hT5⟩
    have HD5 := Lib.hid (And.intro hD5 ((Turns.of_below HB4.out (Own w0 F)).trans hT5 (fun _ h => .inl h)))
    clear hwr hD5 hT5 hWE
    by_cases h0 : WE = 0
    · subst h0
      have hN : PN = nm := by rw [HPP.out.2.2, HE.out.2.2, ← HPP.out.2.1, ← HWE.out]; rfl
      go_wp2_with fail
      go_ret2
      exact ⟨by rw [← HWE.out, hN]; try rfl, HD5.out.1, HD5.out.2⟩
    · have hN : PN = ⟨#[]⟩ := by rw [HPP.out.2.2, HE.out.2.2, ← HPP.out.2.1, ← HWE.out, if_neg h0]
      have HN := Lib.hid hN
      clear hN
      go_wp2_with fail
      go_ret2
      exact ⟨by rw [← HWE.out, HN.out]; try rfl, HD5.out.1, HD5.out.2⟩
set_option maxRecDepth 100000 in
set_option maxHeartbeats 4000000 in
theorem get_F (h : DiskF w0 w F g d) (hsm : Small d) (hwf : WfD d) (s : ByteArray) (hrl : (readB d (fileN s)).length < 1000000000) :
    Calls Try.prog 16 #[pt g, .string s] w fun r w' => ∃ v, r = .returned (.tuple #[v, .int .i64 (getE d s)]) ∧ Kd.R (Kd.int .u8) 5 w' w.heap.size (fun _ => True) v (getB d s) ∧ Below w.heap.size w w' := by
  obtain ⟨f, hf⟩ : ∃ s', s' = fileN s := ⟨_, rfl⟩
  have hE : getE d s = if named s = false then 1 else if readE d f ≠ 0 then readE d f else if nameL (readB d f) ≠ s then 3 else 0 := by unfold getE; rw [← hf]
  have hB : getB d s = if getE d s = 0 then readB d f else [] := by unfold getB; rw [← hf]
  rw [← hf] at hrl
  have hnil : ∀ W : World, Kd.R (Kd.int .u8) 5 W w.heap.size (fun _ => True) (.slice none 0 0) ([] : List Int) := fun W => Kd.R_nil _ _ _ _ _
  obtain ⟨GE, hGE⟩ : ∃ e, e = getE d s := ⟨_, rfl⟩
  obtain ⟨GB, hGB⟩ : ∃ e, e = getB d s := ⟨_, rfl⟩
  rw [← hGE] at hE hB ⊢
  rw [← hGB] at hB ⊢
  have HH := Lib.hid h
  have HS := Lib.hid (And.intro hsm hwf)
  have HE := Lib.hid (And.intro hE hB)
  have HRL := Lib.hid hrl
  have HNIL := Lib.hid hnil
  have hnmd := named_any s w
  obtain ⟨q, hq⟩ : ∃ q, q = named s := ⟨_, rfl⟩
  have HQ := Lib.hid hq
  rw [← hq] at hnmd
  have HND := Lib.hid hnmd
  have HFE := Lib.hid hf
  clear h hsm hwf hE hB hrl hnil hnmd hq hGE hGB hf
  go_enter Try.func16, Try.ntmps16
  go_wp2_with fail
  refine HND.out.mono ?_
  rintro r w1 ⟨rfl, hB1⟩
  have HB1 := Lib.hid hB1
  clear hB1
  cases q with
  | false =>
    go_wp2_with fail
    go_ret2
    have hE : GE = 1 := by rw [HE.out.1, ← HQ.out, if_pos rfl]
    have hB : GB = [] := by rw [HE.out.2, hE]; rfl
    exact ⟨_, (by rw [hE]; try rfl), by rw [hB]; exact HNIL.out _, HB1.out⟩
  | true =>
    have hs64 : s.size = 64 := by
      have h := HQ.out
      unfold named at h
      rw [eq_comm, Bool.and_eq_true] at h
      exact of_decide_eq_true h.1
    have hfile : ∀ W, Calls Try.prog 35 #[.string s] W fun e w' => e = .returned (.string f) ∧ Below W.heap.size W w' := fun W => by
      rw [HFE.out]; exact file_any s (by omega) W
    have hfs : f.size = 34 := by rw [HFE.out]; exact fileN_size _ (by omega)
    have HFI := Lib.hid (And.intro hfile hfs)
    clear hfile hfs hs64
    go_wp2_with fail
    refine (HFI.out.1 w1).mono ?_
    rintro r w2 ⟨rfl, hB2⟩
    have HB2 := Lib.hid (HB1.out.trans (hB2.mono HB1.out.size))
    clear hB2
    go_wp2_with fail
    obtain ⟨RE, hRE⟩ : ∃ e, e = readE d f := ⟨_, rfl⟩
    have hrd := read_F (HH.out.below HB2.out) HS.out.1 f (by have := HFI.out.2; unfold maxLen; omega)
    rw [← hRE] at hrd
    refine hrd.mono ?_
    rintro r w3 ⟨v, rfl, hR, hB3⟩
    have HR := Lib.hid (Kd.R_lower hR HB2.out.size)
    obtain ⟨A3, c3, rfl, hc3, hC3⟩ := Kd.R_reads hR
    have HR3 := Lib.hid (And.intro hc3 hC3)
    have HB3 := Lib.hid (HB2.out.trans (hB3.mono HB2.out.size))
    obtain ⟨m, hm⟩ : ∃ m, m = (readB d f).length := ⟨_, rfl⟩
    rw [← hm] at HR3 HR ⊢
    have HM := Lib.hid hm
    have HRE := Lib.hid hRE
    have hrc := readE_cases d f
    rw [← hRE] at hrc
    clear hrd hR hB3 hc3 hC3 hm hRE
    by_cases hr0 : RE = 0
    · subst hr0
      clear hrc
      have hna := name_len m c3 A3 (readB d f) w3 HM.out.symm (HS.out.2.read f) HR3.out.2 HR3.out.1 (by have := HRL.out; have := HM.out; omega)
      obtain ⟨nm, hnm⟩ : ∃ x, x = nameL (readB d f) := ⟨_, rfl⟩
      rw [← hnm] at hna
      have HNA := Lib.hid hna
      have HNM := Lib.hid hnm
      clear hna hnm
      go_wp2_with fail
      refine HNA.out.mono ?_
      rintro r w4 ⟨rfl, hB4⟩
      have HB4 := Lib.hid (HB3.out.trans (hB4.mono HB3.out.size))
      have HB34 := Lib.hid hB4
      clear hB4
      by_cases hns : nm = s
      · have hE : GE = 0 := by rw [HE.out.1, ← HQ.out, if_neg (by decide), ← HRE.out, if_neg (by decide), ← HNM.out, if_neg (by rw [hns]; simp)]
        have hB : GB = readB d f := by rw [HE.out.2, hE]; rfl
        have HEB := Lib.hid (And.intro hE hB)
        clear hE hB
        have hdq : (nm.toList == s.toList) = true := by rw [eqU8]; exact decide_eq_true hns
        have HNS := Lib.hid hns
        clear hns
        go_wp2_with fail
        go_ret2
        exact ⟨_, (by rw [HEB.out.1]; try rfl), by rw [HEB.out.2]; exact Kd.R_step HR.out (fun i _ hl => HB34.out.block i hl), HB4.out⟩
      · have hE : GE = 3 := by rw [HE.out.1, ← HQ.out, if_neg (by decide), ← HRE.out, if_neg (by decide), ← HNM.out, if_pos hns]
        have hB : GB = [] := by rw [HE.out.2, hE]; rfl
        have HEB := Lib.hid (And.intro hE hB)
        have hdq : (nm.toList == s.toList) = false := by rw [eqU8]; exact decide_eq_false hns
        clear hE hB hns
        go_wp2_with fail
        go_ret2
        exact ⟨_, (by rw [HEB.out.1]; try rfl), by rw [HEB.out.2]; exact HNIL.out _, HB4.out⟩
    · have hE : GE = RE := by rw [HE.out.1, ← HQ.out, if_neg (by decide), ← HRE.out, if_pos hr0]
      have hB : GB = [] := by rw [HE.out.2, hE, if_neg hr0]
      have HEB := Lib.hid (And.intro hE hB)
      clear hE hB hrc
      go_wp2_with fail
      go_ret2
      exact ⟨_, (by rw [HEB.out.1]; try rfl), by rw [HEB.out.2]; exact HNIL.out _, HB3.out⟩
set_option maxRecDepth 100000 in
set_option maxHeartbeats 4000000 in
theorem root_F (h : DiskF w0 w F g d) (hsm : Small d) (hwf : WfD d) :
    Calls Try.prog 8 #[pt g] w fun r w' => r = .returned (.tuple #[.string (rootS d), .int .i64 (rootE d)]) ∧ Below w.heap.size w w' := by
  have hE : rootE d = if readE d rootN ≠ 0 then readE d rootN else if named (toS (readB d rootN)) = false then 3 else 0 := rfl
  have hB : rootS d = if rootE d = 0 then toS (readB d rootN) else ⟨#[]⟩ := rfl
  obtain ⟨GE, hGE⟩ : ∃ e, e = rootE d := ⟨_, rfl⟩
  obtain ⟨GB, hGB⟩ : ∃ e, e = rootS d := ⟨_, rfl⟩
  rw [← hGE] at hE hB ⊢
  rw [← hGB] at hB ⊢
  have HE := Lib.hid (And.intro hE hB)
  obtain ⟨RE, hRE⟩ : ∃ e, e = readE d rootN := ⟨_, rfl⟩
  have hrd := read_F h hsm rootN (by decide)
  rw [← hRE] at hrd
  have HRD := Lib.hid hrd
  have HRE := Lib.hid hRE
  have HS := Lib.hid hwf
  clear h hsm hwf hE hB hGE hGB hrd hRE
  go_enter Try.func8, Try.ntmps8
  go_wp2_with fail
  refine HRD.out.mono ?_
  rintro r w3 ⟨v, rfl, hR, hB3⟩
  obtain ⟨A3, c3, rfl, hc3, hC3⟩ := Kd.R_reads hR
  have HB3 := Lib.hid hB3
  have hst : (convert 32 9 (.slice A3 (readB d rootN).length c3)).run Try.prog w3 = .ok (.string (toS (readB d rootN))) w3 := Kd.C_string Try.underlying32 Try.underlying5 Try.underlying9 hC3
  obtain ⟨m, hm⟩ : ∃ m, m = (readB d rootN).length := ⟨_, rfl⟩
  obtain ⟨s, hs⟩ : ∃ s, s = toS (readB d rootN) := ⟨_, rfl⟩
  rw [← hm] at hst hC3 ⊢
  rw [← hs] at hst
  have HC3 := Lib.hid hC3
  have HST := Lib.hid hs
  clear hR hB3 hC3 hm hs
  by_cases hr0 : RE = 0
  · subst hr0
    obtain ⟨q, hq⟩ : ∃ q, q = named s := ⟨_, rfl⟩
    have hnd := named_any s w3
    rw [← hq] at hnd
    have HND := Lib.hid hnd
    have HQ := Lib.hid hq
    clear hnd hq
    go_wp2_with fail
    refine HND.out.mono ?_
    rintro r w4 ⟨rfl, hB4⟩
    have HB4 := Lib.hid (HB3.out.trans (hB4.mono HB3.out.size))
    have hst4 : (convert 32 9 (.slice A3 m c3)).run Try.prog w4 = .ok (.string s) w4 := by
      have h := Kd.C_string (P := Try.prog) Try.underlying32 Try.underlying5 Try.underlying9 (c := c3) (Kd.C_below HC3.out hB4)
      rw [HST.out]
      exact h
    clear hst hB4
    cases q with
    | false =>
      have hE : GE = 3 := by rw [HE.out.1, ← HRE.out, if_neg (by decide), ← HST.out, if_pos HQ.out.symm]
      have hB : GB = ⟨#[]⟩ := by rw [HE.out.2, hE]; rfl
      have HEB := Lib.hid (And.intro hE hB)
      clear hE hB
      go_wp2_with fail
      go_ret2
      exact ⟨(by rw [HEB.out.1, HEB.out.2]; try rfl), HB4.out⟩
    | true =>
      have hE : GE = 0 := by rw [HE.out.1, ← HRE.out, if_neg (by decide), ← HST.out, if_neg (by rw [← HQ.out]; decide)]
      have hB : GB = s := by rw [HE.out.2, hE, HST.out]; rfl
      have HEB := Lib.hid (And.intro hE hB)
      clear hE hB
      go_wp2_with fail
      go_ret2
      exact ⟨(by rw [HEB.out.1, HEB.out.2]; try rfl), HB4.out⟩
  · have hE : GE = RE := by rw [HE.out.1, ← HRE.out, if_pos hr0]
    have hB : GB = ⟨#[]⟩ := by rw [HE.out.2, hE, if_neg hr0]
    have HEB := Lib.hid (And.intro hE hB)
    clear hE hB
    go_wp2_with fail
    go_ret2
    exact ⟨(by rw [HEB.out.1, HEB.out.2]; try rfl), HB3.out⟩
end
end Go.Proofs.Ytnjdighpdcabcaa
/- steps: function values that are done one behind the other; SetRoot. -/
set_option linter.unusedVariables false
set_option linter.unusedSimpArgs false
namespace Go.Proofs.Ytnjdighpdcabcaa
open Go.RowKit Go.Proofs.YtnjdighpdcabcaaW.PrintWords Go.Proofs.YtnjdighpdcabcaaW.PrintLast Go.Proofs.YtnjdighpdcabcaaW.PrintMore

/-! ## steps, plain -/
abbrev StepD := D → Int × D
def runS : List StepD → D → Int × D
  | [], d => (0, d)
  | f :: r, d => if (f d).1 = 0 then runS r (f d).2 else f d
theorem runS_take (f : StepD) : ∀ (l : List StepD) (d d' : D) (i : Nat), l[i]? = some f → runS (l.take i) d = (0, d') → runS (l.take (i + 1)) d = f d'
  | [], _, _, _, h, _ => by simp at h
  | g :: r, d, d', 0, h, h2 => by
    simp at h
    subst h
    simp [runS] at h2
    subst h2
    simp only [List.take_succ_cons, List.take_zero, runS]
    split
    · rename_i h0
      rw [← h0]
    · rfl
  | g :: r, d, d', i + 1, h, h2 => by
    simp only [List.take_succ_cons, runS] at h2 ⊢
    split at h2
    · rename_i h0
      rw [if_pos h0]
      exact runS_take f r _ d' i (by simpa using h) h2
    · rename_i h0
      exact absurd (congrArg Prod.fst h2) h0
theorem runS_stop : ∀ (l : List StepD) (d : D) (i : Nat), (runS (l.take i) d).1 ≠ 0 → runS l d = runS (l.take i) d
  | [], d, i, h => by simp at h; exact absurd rfl h
  | g :: r, d, 0, h => by simp [runS] at h
  | g :: r, d, i + 1, h => by
    simp only [List.take_succ_cons, runS] at h ⊢
    split
    · rename_i h0
      rw [if_pos h0] at h
      exact runS_stop r _ i h
    · rfl

/-! ## function values that are steps -/
/-- A function, what is bound, what is captured. -/
abbrev FnB := Nat × Array Value × Array Value
def encFnB (x : FnB) : Value := .func (.func x.1) x.2.1 x.2.2
abbrev kFnB : Kd FnB := Kd.scalar encFnB (fun _ => rfl)
/-- A function value does f to a disk, beside F, where I holds. -/
structure StepFn (w0 : World) (F : Nat → Prop) (g : Nat) (V : Nat → D → Prop) (N : Nat) (I : World → Prop) (x : FnB) (f : StepD) : Prop where
  en : ∀ args w, (callFunc x.1 args).run Try.prog w = .ok (.enter x.1 args) w
  ok : ∀ w d i, i < N → DiskF w0 w F g d → V i d → I w → Calls Try.prog x.1 (x.2.1 ++ x.2.2) w fun r w' => r = .returned (.int .i64 (f d).1) ∧ DiskF w0 w' F g (f d).2 ∧ Turns (Own w0 F) w w'
  v : ∀ d i, i < N → V i d → V (i + 1) (f d).2
theorem at_fnB {w : World} {A : Option Addr} {n : Nat} {xs : List FnB} (h : kFnB.C w A n xs) (i : Nat) (x : FnB) (hx : xs[i]? = some x) : ∃ ad, A = some ad ∧ w.cell? (ad.add i) = some (encFnB x) := by
  have hi : i < n := by rw [← h.1]; exact (List.getElem?_eq_some_iff.1 hx).1
  obtain ⟨ad, c, e, _, hK, hc⟩ := Kd.C_get h x (i : Int) (by omega) (by omega)
  refine ⟨ad, e, ?_⟩
  have hg : xs.getD (i : Int).toNat x = x := by simp [List.getD_eq_getElem?_getD, hx]
  rw [hg] at hK
  have hK' : c = [encFnB x] := hK
  have := hc 0 (encFnB x) (by rw [hK']; rfl)
  simpa [show kFnB.sz = 1 from rfl] using this
set_option maxRecDepth 100000 in
set_option maxHeartbeats 4000000 in
theorem steps_any {w0 w : World} {F : Nat → Prop} {g : Nat} {d : D} {V : Nat → D → Prop} {N : Nat} {I : World → Prop} (hI : ∀ a b, w0.heap.size ≤ a.heap.size → I a → Turns (Own w0 F) a b → I b)
    (h : DiskF w0 w F g d) (hv : V 0 d) (hi : I w) (A : Option Addr) (n c : Nat) (xs : List FnB) (fs : List StepD) (hn : xs.length = n) (hnN : n ≤ N) (hx : All2 (StepFn w0 F g V N I) xs fs) (hrow : ∀ W, I W → kFnB.C W A n xs) :
    Calls Try.prog 23 #[.slice A n c] w fun r w' => r = .returned (.int .i64 (runS fs d).1) ∧ DiskF w0 w' F g (runS fs d).2 ∧ Turns (Own w0 F) w w' ∧ I w' := by
  have hnl : n = fs.length := by rw [← hn]; exact hx.length
  have hnb : n ≤ 9223372036854775807 := (hrow w hi).2.1
  have HI := Lib.hid hI
  have HX := Lib.hid hx
  have HR := Lib.hid hrow
  have H0 := Lib.hid (And.intro h (And.intro hv hi))
  have HN := Lib.hid (And.intro hn hnl)
  clear hI h hv hi hn hx hrow hnl
  go_enter Try.func23, Try.ntmps23
  go_wp2_with fail
  go_loopw [8] (fun v wr => ∃ (i : Nat) (d' : D), v = .int .i64 (i : Int) ∧ i ≤ n ∧ runS (fs.take i) d = (0, d') ∧ DiskF w0 wr F g d' ∧ V i d' ∧ I wr ∧ Turns (Own w0 F) w wr) (fun v _ => n - (Lib.intOf v).toNat)
  case atStart => exact ⟨0, d, rfl, Nat.zero_le _, rfl, H0.out.1, H0.out.2.1, H0.out.2.2, Turns.refl _ _⟩
  case round =>
    obtain ⟨i, d', rfl, hin, hrun, hD, hV, hIr, hT⟩ := hrel
    by_cases hi : i < n
    · obtain ⟨f, hf⟩ : ∃ f, fs[i]? = some f := ⟨_, List.getElem?_eq_getElem (by have := HN.out.2; omega)⟩
      obtain ⟨⟨k, bd, cp⟩, hk, hs⟩ := HX.out.get hf
      obtain ⟨ad, e, hcell⟩ := at_fnB (HR.out wr hIr) i _ hk
      subst e
      have hcell' : wr.cell? (ad.add i) = some (.func (.func k) bd cp) := hcell
      have hstep := runS_take f fs d d' i hf hrun
      have eg : ∀ args w, (callFunc k args).run Try.prog w = .ok (.enter k args) w := hs.en
      have hok := hs.ok wr d' i (by omega) hD hV hIr
      have hi' : (i : Int) < (n : Int) := by omega
      obtain ⟨y, hy⟩ : ∃ y, y = f d' := ⟨_, rfl⟩
      have hvy := hs.v d' i (by omega) hV
      rw [← hy] at hok hstep hvy
      have HOK := Lib.hid hok
      have HV := Lib.hid hvy
      have HST := Lib.hid hstep
      have HII := Lib.hid hi
      have HT := Lib.hid (And.intro hD (And.intro hIr hT))
      clear hok hvy hstep hcell hf hk hs hrun hD hV hIr hT hy hin hi
      obtain ⟨code, d2⟩ := y
      go_wp2_with fail
      refine HOK.out.mono ?_
      rintro r w2 ⟨rfl, hD2, hT2⟩
      have hI2 := HI.out wr w2 HT.out.1.hB.size HT.out.2.1 hT2
      have hT3 := HT.out.2.2.trans hT2 (fun _ h => .inl h)
      have H2 := Lib.hid (And.intro hD2 (And.intro hI2 hT3))
      clear hD2 hT2 hI2 hT3
      by_cases hc0 : code = 0
      · subst hc0
        go_wp2_with fail
        refine ⟨⟨i + 1, d2, by simp, by have := HII.out; omega, HST.out, H2.out.1, HV.out, H2.out.2.1, H2.out.2.2⟩, ?_⟩
        simp [Lib.intOf]
        have := HII.out
        omega
      · have hstop : runS fs d = (code, d2) := by
          have h := runS_stop fs d (i + 1) (by rw [HST.out]; exact hc0)
          rw [h, HST.out]
        have HS := Lib.hid hstop
        clear hstop
        go_wp2_with fail
        go_ret
        rw [HS.out]
        exact ⟨rfl, H2.out.1, H2.out.2.2, H2.out.2.1⟩
    · have hie : i = n := by omega
      have hi' : ¬ (i : Int) < (n : Int) := by omega
      have hall : runS fs d = (0, d') := by rw [← hrun, hie, HN.out.2, List.take_length]
      have HE := Lib.hid (And.intro hall (And.intro hD (And.intro hIr hT)))
      clear hall hrun hD hV hIr hT hin hi
      go_wp2_with fail
      go_ret
      rw [HE.out.1]
      exact ⟨rfl, HE.out.2.1, HE.out.2.2.2, HE.out.2.2.1⟩
end Go.Proofs.Ytnjdighpdcabcaa
/- SetRoot: five steps. -/
set_option linter.unusedVariables false
set_option linter.unusedSimpArgs false
namespace Go.Proofs.Ytnjdighpdcabcaa
open Go.RowKit Go.Proofs.YtnjdighpdcabcaaW.PrintWords Go.Proofs.YtnjdighpdcabcaaW.PrintLast Go.Proofs.YtnjdighpdcabcaaW.PrintMore

def syncF : StepD := fun d => (syncE d, syncD d)
def freshF (s : ByteArray) : StepD := fun d => (writeE d freshN (intsOf s), writeD d freshN (intsOf s))
def moveF : StepD := fun d => (renameE d freshN rootN, renameD d freshN rootN)
def setF (s : ByteArray) : List StepD := [syncF, freshF s, syncF, moveF, syncF]
def setE (d : D) (s : ByteArray) : Int := if named s = false then 1 else (runS (setF s) d).1
def setD (d : D) (s : ByteArray) : D := if named s = false then d else (runS (setF s) d).2
/-- A disk of few and right numbers, and bytes. -/
structure InvD (n : Nat) (d : D) : Prop where
  i : SmallI n d
  wf : WfD d
theorem InvD.small {n : Nat} {d : D} (h : InvD n d) (hn : n ≤ 1000000000) : Small d := h.i.small hn
theorem InvD.le {n m : Nat} {d : D} (h : InvD n d) (hn : n ≤ m) : InvD m d := ⟨h.i.le hn, h.wf⟩
theorem InvD.syncI {n : Nat} {d : D} (h : InvD n d) : InvD (n + 1) (syncD d) := ⟨h.i.sync, h.wf.sync⟩
theorem InvD.write {n : Nat} {d : D} (h : InvD n d) (s : ByteArray) {l : List Int} (hl : Wf l) : InvD (n + 1) (writeD d s l) := ⟨h.i.write s l, h.wf.write s hl⟩
theorem InvD.rename {n : Nat} {d : D} (h : InvD n d) (s t : ByteArray) : InvD (n + 1) (renameD d s t) := ⟨h.i.rename s t, h.wf.rename s t⟩
theorem InvD.fuseI {n : Nat} {d : D} (h : InvD n d) (k : Int) (hk : k ≤ 9223372036854775807) : InvD (n + 1) (fuseD d k) := ⟨h.i.fuseI k hk, h.wf.fuseI k⟩
theorem InvD.crash {n : Nat} {d : D} (h : InvD n d) (ks : List Bool) : InvD (n + 1) (crashD d ks) := ⟨h.i.crash ks, h.wf.crash ks⟩
theorem InvD.new (room : Int) (hr : room ≤ 9223372036854775807) : InvD 0 (newD room) := ⟨SmallI.new room hr, WfD.new room⟩
theorem InvD.put {n : Nat} {d : D} (h : InvD n d) {l : List Int} (hl : Wf l) : InvD (n + 1) (putD d l) := by
  unfold putD
  split
  · exact h.write _ hl
  · exact h.le (Nat.le_succ _)
theorem runS_inv {fs : List StepD} (hf : ∀ f ∈ fs, ∀ n d, InvD n d → InvD (n + 1) (f d).2) : ∀ n d, InvD n d → InvD (n + fs.length) (runS fs d).2 := by
  induction fs with
  | nil => exact fun n d h => h
  | cons f r ih =>
    intro n d h
    have h1 := hf f (by simp) n d h
    unfold runS
    split
    · have h2 := ih (fun g hg => hf g (by simp [hg])) (n + 1) _ h1
      rw [List.length_cons, show n + (r.length + 1) = n + 1 + r.length by omega]
      exact h2
    · exact h1.le (by simp)
theorem setF_inv (s : ByteArray) : ∀ f ∈ setF s, ∀ n d, InvD n d → InvD (n + 1) (f d).2 := by
  intro f hf n d h
  simp only [setF, List.mem_cons, List.not_mem_nil, or_false] at hf
  rcases hf with rfl | rfl | rfl | rfl | rfl
  · exact h.syncI
  · exact h.write _ (wf_intsOf s)
  · exact h.syncI
  · exact h.rename _ _
  · exact h.syncI
theorem InvD.set {n : Nat} {d : D} (h : InvD n d) (s : ByteArray) : InvD (n + 5) (setD d s) := by
  unfold setD
  split
  · exact h.le (by omega)
  · exact runS_inv (setF_inv s) n d h

theorem enters_sy : ∀ args w, (callFunc 24 args).run Try.prog w = .ok (.enter 24 args) w := enters_of Try.func24 (by kernel_rfl) rfl
theorem enters_r1 : ∀ args w, (callFunc 25 args).run Try.prog w = .ok (.enter 25 args) w := enters_of Try.func25 (by kernel_rfl) rfl
theorem enters_r2 : ∀ args w, (callFunc 26 args).run Try.prog w = .ok (.enter 26 args) w := enters_of Try.func26 (by kernel_rfl) rfl
theorem fns_C {W : World} {b : Nat} {t : TypeId} {fr : Nat × Nat} (l : List FnB) (n : Nat) (hn : l.length = n) (hb : W.heap[b]? = some (.cells (l.map encFnB).toArray t fr)) (hl : n ≤ 1000000) : kFnB.C W (some ⟨b, 0, none⟩) n l := by
  refine ⟨hn, by omega, fun _ => ⟨_, rfl, fun j x hj => ?_⟩⟩
  refine ⟨[encFnB x], rfl, rfl, fun i u hu => ?_⟩
  have hjl : j < l.length := (List.getElem?_eq_some_iff.1 hj).1
  cases i with
  | succ i => simp at hu
  | zero =>
    simp at hu
    subst hu
    rw [show ((⟨b, 0, none⟩ : Addr).add (j * kFnB.sz + 0)) = ⟨b, j, none⟩ by simp [show kFnB.sz = 1 from rfl]; cases j <;> simp [Addr.add]]
    rw [cell_of_row _ _ _ _ _ _ hb]
    have : l[j]? = some x := hj
    simp [this]
/-- A conversion of a string to bytes lays these. -/
theorem bytes_laid (w : World) (s : ByteArray) (hs : s.size ≤ 140737488351232) : ∃ c W, (convert 9 32 (.string s)).run Try.prog w = .ok (.slice (some ⟨w.heap.size, 0, none⟩) s.size c) W ∧ s.size ≤ c ∧ Kd.C (Kd.int .u8) W (some ⟨w.heap.size, 0, none⟩) s.size (intsOf s) ∧ Below w.heap.size w W := by
  refine ⟨_, _, Lib.run_convert_string_bytes w 9 32 5 s Try.underlying9 Try.underlying32 Try.underlying5, ?_, ?_, ?_⟩
  · exact grownCap_ge w s.size 0 5
  · refine Kd.C_of_reads (d := (0 : Int)) ⟨by rw [intsOf_length], by omega, fun _ => ⟨_, rfl, fun j hj => ?_⟩⟩
    rw [show (⟨w.heap.size, 0, none⟩ : Addr).add j = ⟨w.heap.size, j, none⟩ by cases j <;> simp [Addr.add]]
    rw [Lib.bytesWorld_cell w 5 s j hj]
    congr 2
    unfold intsOf
    simp [List.getD_eq_getElem?_getD, hj]
  · exact Lib.bytesWorld_below w 5 s
section
variable {w0 w : World} {F : Nat → Prop} {g : Nat} {d : D}
set_option maxRecDepth 100000 in
set_option maxHeartbeats 4000000 in
theorem fresh_F (h : DiskF w0 w F g d) (hsm : Small d) (s : ByteArray) (hs : s.size ≤ 140737488351232) (b0 b1 : Nat) (c0 : w.cell? ⟨b0, 0, none⟩ = some (pt g)) (c1 : w.cell? ⟨b1, 0, none⟩ = some (.string s)) :
    Calls Try.prog 25 #[pt b0, pt b1] w fun r w' => r = .returned (.int .i64 (freshF s d).1) ∧ DiskF w0 w' F g (freshF s d).2 ∧ Turns (Own w0 F) w w' := by
  obtain ⟨c, W, hrun, hc, hC, hB⟩ := bytes_laid w s hs
  have hw := write_F (h.below hB) hsm freshN (by decide) _ s.size c (intsOf s) (intsOf_length s) hC hc hs
  obtain ⟨y, hy⟩ : ∃ y, y = freshF s d := ⟨_, rfl⟩
  have e1 : writeE d freshN (intsOf s) = y.1 := by rw [hy]; rfl
  have e2 : writeD d freshN (intsOf s) = y.2 := by rw [hy]; rfl
  rw [e1, e2] at hw
  rw [← hy]
  have HW := Lib.hid hw
  have HB := Lib.hid hB
  clear hw hC hc hB h hsm hy e1 e2
  obtain ⟨code, d2⟩ := y
  go_enter Try.func25, Try.ntmps25
  go_wp2_with fail
  refine HW.out.mono ?_
  rintro r w2 ⟨rfl, hD2, hT2⟩
  have HD2 := Lib.hid (And.intro hD2 ((Turns.of_below HB.out (Own w0 F)).trans hT2 (fun _ h => .inl h)))
  clear hD2 hT2
  go_wp2_with fail
  go_ret
  exact ⟨rfl, HD2.out.1, HD2.out.2⟩
set_option maxRecDepth 100000 in
theorem move_F (h : DiskF w0 w F g d) (hsm : Small d) (b0 : Nat) (c0 : w.cell? ⟨b0, 0, none⟩ = some (pt g)) :
    Calls Try.prog 26 #[pt b0] w fun r w' => r = .returned (.int .i64 (moveF d).1) ∧ DiskF w0 w' F g (moveF d).2 ∧ Turns (Own w0 F) w w' := by
  have hw := rename_F h hsm freshN rootN (by decide) (by decide)
  obtain ⟨y, hy⟩ : ∃ y, y = moveF d := ⟨_, rfl⟩
  have e1 : renameE d freshN rootN = y.1 := by rw [hy]; rfl
  have e2 : renameD d freshN rootN = y.2 := by rw [hy]; rfl
  rw [e1, e2] at hw
  rw [← hy]
  have HW := Lib.hid hw
  clear hw h hsm hy e1 e2
  obtain ⟨code, d2⟩ := y
  go_enter Try.func26, Try.ntmps26
  go_wp2_with fail
  refine HW.out.mono ?_
  rintro r w2 ⟨rfl, hD2, hT2⟩
  have HD2 := Lib.hid (And.intro hD2 hT2)
  clear hD2 hT2
  go_wp2_with fail
  go_ret
  exact ⟨rfl, HD2.out.1, HD2.out.2⟩
set_option maxRecDepth 100000 in
set_option maxHeartbeats 4000000 in
theorem set_F (h : DiskF w0 w F g d) (k : Nat) (hv : InvD k d) (hk : k ≤ 999999990) (s : ByteArray) :
    Calls Try.prog 9 #[pt g, .string s] w fun r w' => r = .returned (.int .i64 (setE d s)) ∧ DiskF w0 w' F g (setD d s) ∧ Turns (Own w0 F) w w' := by
  have hE : setE d s = if named s = false then 1 else (runS (setF s) d).1 := rfl
  have hD : setD d s = if named s = false then d else (runS (setF s) d).2 := rfl
  obtain ⟨SE, hSE⟩ : ∃ e, e = setE d s := ⟨_, rfl⟩
  obtain ⟨SD, hSD⟩ : ∃ e, e = setD d s := ⟨_, rfl⟩
  rw [← hSE] at hE ⊢
  rw [← hSD] at hD ⊢
  obtain ⟨q, hq⟩ : ∃ q, q = named s := ⟨_, rfl⟩
  obtain ⟨w2, hw2⟩ : ∃ w2, w2 = (w.alloc (.cells #[pt g] 23)).alloc (.cells #[.string s] 9) := ⟨_, rfl⟩
  have hB : Below w.heap.size w w2 := by rw [hw2]; exact (((Below.refl _ _).alloc (Nat.le_refl _) _).alloc (by simp) _)
  have e0 : w2.cell? ⟨w.heap.size, 0, none⟩ = some (pt g) := by
    rw [hw2]
    exact cell_alloc_old _ (cell_alloc rfl _ _)
  have e1 : w2.cell? ⟨w.heap.size + 1, 0, none⟩ = some (.string s) := by rw [hw2]; exact cell_alloc (by simp) _ _
  have hnd := named_any s w2
  rw [← hq] at hnd hE hD
  have HH := Lib.hid (And.intro h (And.intro hv hk))
  have HE := Lib.hid (And.intro hE hD)
  have HB := Lib.hid hB
  have HQ := Lib.hid hq
  have HND := Lib.hid hnd
  have HW := Lib.hid (And.intro hw2 (And.intro e0 e1))
  clear h hv hk hE hD hSE hSD hB hq hnd hw2 e0 e1
  go_enter Try.func9, Try.ntmps9
  go_wp2_with fail
  rw [← HW.out.1]
  refine HND.out.mono ?_
  rintro r w3 ⟨rfl, hB3⟩
  have HB3 := Lib.hid (HB.out.trans (hB3.mono HB.out.size))
  have d0 := (hB3.cell (World.block_lt_of_cell? w2 _ HW.out.2.1)).trans HW.out.2.1
  have d1 := (hB3.cell (World.block_lt_of_cell? w2 _ HW.out.2.2)).trans HW.out.2.2
  clear hB3
  cases q with
  | false =>
    go_wp2_with fail
    go_ret
    exact ⟨by rw [HE.out.1]; rfl, by rw [HE.out.2]; exact HH.out.1.below HB3.out, Turns.of_below HB3.out _⟩
  | true =>
    go_wp2_with fail
    obtain ⟨w4, hw4⟩ : ∃ w4, w4 = w3.alloc (Obj.cells #[.func (.func 24) #[pt g] #[], .func (.func 25) #[] #[pt w.heap.size, pt (w.heap.size + 1)], .func (.func 24) #[pt g] #[], .func (.func 26) #[] #[pt w.heap.size], .func (.func 24) #[pt g] #[]] 56) := ⟨_, rfl⟩
    rw [← hw4]
    have hB34 : Below w3.heap.size w3 w4 := by rw [hw4]; exact (Below.refl _ _).alloc (Nat.le_refl _) _
    have hB4 : Below w.heap.size w w4 := HB3.out.trans (hB34.mono HB3.out.size)
    have hrow : w4.heap[w3.heap.size]? = some (.cells ([(24, #[pt g], #[]), (25, #[], #[pt w.heap.size, pt (w.heap.size + 1)]), (24, #[pt g], #[]), (26, #[], #[pt w.heap.size]), (24, #[pt g], #[])].map encFnB).toArray 56 (0, 0)) := by
      rw [hw4]; exact heap_alloc_new w3 _
    obtain ⟨xs, hxs⟩ : ∃ xs : List FnB, xs = [(24, #[pt g], #[]), (25, #[], #[pt w.heap.size, pt (w.heap.size + 1)]), (24, #[pt g], #[]), (26, #[], #[pt w.heap.size]), (24, #[pt g], #[])] := ⟨_, rfl⟩
    rw [← hxs] at hrow
    have hlt := blk_lt hrow
    have hl0 := World.block_lt_of_cell? w3 _ d0
    have hl1 := World.block_lt_of_cell? w3 _ d1
    have z0 := (hB34.cell hl0).trans d0
    have z1 := (hB34.cell hl1).trans d1
    have hsz := hB34.size
    have hI : ∀ a b : World, w0.heap.size ≤ a.heap.size → ((∀ i, w.heap.size ≤ i → i < w4.heap.size → a.heap[i]? = w4.heap[i]?) ∧ w4.heap.size ≤ a.heap.size) → Turns (Own w0 (Since F w w4)) a b → ((∀ i, w.heap.size ≤ i → i < w4.heap.size → b.heap[i]? = w4.heap[i]?) ∧ w4.heap.size ≤ b.heap.size) := by
      intro a b _ ha ht
      refine ⟨fun i h1 h2 => ?_, Nat.le_trans ha.2 ht.size⟩
      rw [ht.block i (Nat.lt_of_lt_of_le h2 ha.2) (fun h => h.2 (.inr ⟨h1, h2⟩))]
      exact ha.1 i h1 h2
    have hcell : ∀ (a : World) (p : Addr) (v : Value), ((∀ i, w.heap.size ≤ i → i < w4.heap.size → a.heap[i]? = w4.heap[i]?) ∧ w4.heap.size ≤ a.heap.size) → w.heap.size ≤ p.block → w4.cell? p = some v → a.cell? p = some v := by
      intro a p v ha hp hv
      have hb := World.block_lt_of_cell? w4 _ hv
      unfold World.cell? at hv ⊢
      rw [ha.1 p.block hp hb]
      exact hv
    have hsy : StepFn w0 (Since F w w4) g (fun i d => InvD (k + i) d) 5 (fun a => (∀ i, w.heap.size ≤ i → i < w4.heap.size → a.heap[i]? = w4.heap[i]?) ∧ w4.heap.size ≤ a.heap.size) (24, #[pt g], #[]) syncF :=
      ⟨enters_sy, fun a d i hi hD hV ha => sync_F hD (hV.small (by have := HH.out.2.2; omega)), fun d i hi hV => hV.syncI⟩
    have hst := steps_any hI (HH.out.1.keep hB4) (V := fun i d => InvD (k + i) d) (N := 5) HH.out.2.1 ⟨fun i _ _ => rfl, Nat.le_refl _⟩ (some ⟨w3.heap.size, 0, none⟩) 5 5 xs (setF s) (by rw [hxs]; rfl) (Nat.le_refl _) (by
      rw [hxs]
      refine ⟨hsy, ⟨enters_r1, fun a d i hi hD hV ha => ?_, fun d i hi hV => hV.write freshN (wf_intsOf s)⟩, hsy, ⟨enters_r2, fun a d i hi hD hV ha => ?_, fun d i hi hV => hV.rename _ _⟩, hsy, trivial⟩
      · exact fresh_F hD (hV.small (by have := HH.out.2.2; omega)) s (by have := HQ.out; unfold named at this; rw [eq_comm, Bool.and_eq_true] at this; have := of_decide_eq_true this.1; omega) _ _ (hcell a _ _ ha (Nat.le_refl _) z0) (hcell a _ _ ha (Nat.le_succ _) z1)
      · exact move_F hD (hV.small (by have := HH.out.2.2; omega)) _ (hcell a _ _ ha (Nat.le_refl _) z0)) (fun W hW => fns_C xs 5 (by rw [hxs]; rfl) (by rw [hW.1 _ HB3.out.size hlt]; exact hrow) (by omega))
    rw [if_neg (by decide), if_neg (by decide)] at HE
    rw [← HE.out.1, ← HE.out.2] at hst
    refine hst.mono ?_
    have HB4 := Lib.hid hB4
    clear hst hsy hcell hI hrow hxs hw4 hB34 hB4 z0 z1 d0 d1
    rintro r w5 ⟨rfl, hD5, hT5, _⟩
    have HD5 := Lib.hid (And.intro hD5 hT5)
    clear hD5 hT5
    go_wp2_with fail
    go_ret
    refine ⟨rfl, HD5.out.1.less (fun i hi => .inl hi), (Turns.of_below HB4.out (Own w0 F)).trans HD5.out.2 (fun i hi => .inl ⟨hi.1, fun hf => hi.2 (.inl hf)⟩)⟩
end
end Go.Proofs.Ytnjdighpdcabcaa
/- The store, plain: SetRoot of a name; what is there wherever the power goes. -/
set_option linter.unusedVariables false
set_option linter.unusedSimpArgs false
namespace Go.Proofs.Ytnjdighpdcabcaa
open Go.RowKit Go.Proofs.YtnjdighpdcabcaaW.PrintWords Go.Proofs.YtnjdighpdcabcaaW.PrintLast Go.Proofs.YtnjdighpdcabcaaW.PrintMore

theorem right_fresh : rightN freshN = true := by kernel_rfl
theorem right_root : rightN rootN = true := by kernel_rfl
theorem size_fresh : freshN.size = 8 := rfl
theorem size_root : rootN.size = 4 := rfl
theorem ne_size {a b : ByteArray} (h : a.size ≠ b.size) : a ≠ b := fun e => h (by rw [e])
theorem fresh_ne_root : freshN ≠ rootN := ne_size (by decide)
theorem named_64 {s : ByteArray} (h : named s = true) : s.size = 64 := by
  unfold named at h
  rw [Bool.and_eq_true] at h
  exact of_decide_eq_true h.1
theorem named_hex {s : ByteArray} (h : named s = true) : ∀ b ∈ s.data.toList, hexN b.toNat = true := by
  unfold named at h
  rw [Bool.and_eq_true] at h
  exact List.all_eq_true.1 h.2
theorem file_size {s : ByteArray} (h : named s = true) : (fileN s).size = 34 := fileN_size s (by have := named_64 h; omega)
theorem hex_let (x : Nat) (h : hexN x = true) : letN x = true := by
  have h := of_decide_eq_true h
  exact decide_eq_true (by omega)
theorem right_file {s : ByteArray} (h : named s = true) : rightN (fileN s) = true := by
  unfold rightN
  rw [Bool.and_eq_true]
  refine ⟨decide_eq_true (by have := file_size h; omega), List.all_eq_true.2 (fun b hb => ?_)⟩
  unfold fileN at hb
  rw [ByteArray.data_append, Array.toList_append, List.mem_append] at hb
  rcases hb with hb | hb
  · have : b = 111 ∨ b = 46 := by simpa using hb
    rcases this with rfl | rfl <;> rfl
  · refine hex_let _ (named_hex h b ?_)
    rw [ByteArray.data_extract, Array.toList_extract] at hb
    simp only [List.extract_eq_take_drop] at hb
    exact List.mem_of_mem_drop (List.mem_of_mem_take hb)
theorem dig_hex (a : Nat) (ha : a < 16) : hexN (dig a).toNat = true := by
  have : ∀ x : Fin 16, hexN (dig x.val).toNat = true := by decide
  exact this ⟨a, ha⟩
theorem hexL_hex (xs : List (BitVec 8)) : (hexL xs).all (fun b => hexN b.toNat) = true := by
  induction xs with
  | nil => rfl
  | cons x r ih =>
    have := x.isLt
    unfold hexL
    simp only [List.all_cons]
    rw [dig_hex _ (by omega), dig_hex _ (by omega), ih]
    rfl
theorem named_nameL (l : List Int) : named (nameL l) = true := by
  unfold named
  rw [nameL_size, show (nameL l).data.toList = hexL (sum (toB l)) by simp [nameL, name], hexL_hex]
  rfl

/-! ## SetRoot while the power stays -/
theorem runS_go {f : StepD} {r : List StepD} {d d' : D} (h1 : (f d).1 = 0) (h2 : (f d).2 = d') : runS (f :: r) d = runS r d' := by rw [runS, if_pos h1, h2]
theorem runS_no {f : StepD} {r : List StepD} {d : D} (h1 : (f d).1 ≠ 0) : runS (f :: r) d = f d := by rw [runS, if_neg h1]
def rootF (fs : Files) (s : ByteArray) : Files := put (del (put fs freshN (intsOf s)) freshN) rootN (intsOf s)
theorem set_ok {d : D} {s : ByteArray} (hn : named s = true) (hd : d.down = false) (hf : d.fuse = -1) (hl : d.now.length < 500) (hr : 64 + (used d.now : Int) ≤ d.room) :
    setE d s = 0 ∧ setD d s = ⟨d.room, rootF d.now s, rootF d.now s, [], d.acts + 1 + 1 + 1 + 1 + 1, -1, false⟩ := by
  have off : ∀ d : D, d.down = false → d.fuse = -1 → offD d = false := fun d h1 h2 => by unfold offD; rw [h1, h2]; rfl
  have sy : ∀ d : D, d.down = false → d.fuse = -1 → syncE d = 0 ∧ syncD d = ⟨d.room, d.now, d.now, [], d.acts + 1, -1, false⟩ := fun d h1 h2 => by
    refine ⟨(sync_ok (off d h1 h2)).1, (sync_ok (off d h1 h2)).2.trans ?_⟩
    unfold ranD
    rw [h2]
    rfl
  obtain ⟨s1, s2⟩ := sy d hd hf
  obtain ⟨d1, hd1⟩ : ∃ d1 : D, d1 = ⟨d.room, d.now, d.now, [], d.acts + 1, -1, false⟩ := ⟨_, rfl⟩
  have hb : (intsOf s).length = 64 := by rw [intsOf_length, named_64 hn]
  have w0 : wrE d1 freshN (intsOf s).length = 0 := wrE_ok right_fresh (by omega) (by rw [hd1]; show d.now.length < 512; omega) (by rw [hd1, hb]; show ((64 : Nat) : Int) ≤ d.room - (used d.now : Int) + ((((look d.now freshN).getD []).length : Nat) : Int); omega)
  obtain ⟨w1, w2⟩ := write_ok (off d1 (by rw [hd1]) (by rw [hd1])) w0
  obtain ⟨d2, hd2⟩ : ∃ d2 : D, d2 = ⟨d.room, put d.now freshN (intsOf s), d.now, [⟨0, freshN, ByteArray.empty, intsOf s⟩], d.acts + 1 + 1, -1, false⟩ := ⟨_, rfl⟩
  have w3 : writeD d1 freshN (intsOf s) = d2 := by rw [w2, hd2, hd1]; rfl
  obtain ⟨s3, s4⟩ := sy d2 (by rw [hd2]) (by rw [hd2])
  obtain ⟨d3, hd3⟩ : ∃ d3 : D, d3 = ⟨d.room, put d.now freshN (intsOf s), put d.now freshN (intsOf s), [], d.acts + 1 + 1 + 1, -1, false⟩ := ⟨_, rfl⟩
  have s5 : syncD d2 = d3 := by rw [s4, hd3, hd2]
  have hlk : look d3.now freshN = some (intsOf s) := by rw [hd3]; exact look_put_same _ _ _
  obtain ⟨m1, m2⟩ := rename_ok (d := d3) (s := freshN) (t := rootN) (off d3 (by rw [hd3]) (by rw [hd3])) right_root (by rw [hlk]; rfl)
  obtain ⟨d4, hd4⟩ : ∃ d4 : D, d4 = ⟨d.room, rootF d.now s, put d.now freshN (intsOf s), [⟨1, freshN, rootN, []⟩], d.acts + 1 + 1 + 1 + 1, -1, false⟩ := ⟨_, rfl⟩
  have m3 : renameD d3 freshN rootN = d4 := by
    have : appl d3.now ⟨1, freshN, rootN, []⟩ = rootF d.now s := by
      unfold appl
      rw [if_neg (by decide), if_pos (by rfl)]
      show (match look d3.now freshN with | some t => put (del d3.now freshN) rootN t | none => d3.now) = _
      rw [hlk, hd3]
      rfl
    rw [m2, this, hd4, hd3]
    rfl
  obtain ⟨s6, s7⟩ := sy d4 (by rw [hd4]) (by rw [hd4])
  have hrun : runS (setF s) d = (0, syncD d4) := by
    unfold setF
    rw [runS_go (f := syncF) s1 (s2.trans hd1.symm), runS_go (f := freshF s) w1 w3, runS_go (f := syncF) s3 s5, runS_go (f := moveF) m1 m3, runS_go (f := syncF) s6 rfl]
    rfl
  unfold setE setD
  rw [hn, if_neg (by decide), if_neg (by decide), hrun, s7, hd4]
  exact ⟨rfl, rfl⟩
theorem look_root (fs : Files) (s : ByteArray) : look (rootF fs s) rootN = some (intsOf s) := look_put_same _ _ _
theorem look_far (fs : Files) (s n : ByteArray) (h1 : n ≠ rootN) (h2 : n ≠ freshN) : look (rootF fs s) n = look fs n := by
  unfold rootF
  rw [look_put_far _ (Ne.symm h1), look_del_other _ (Ne.symm h2), look_put_far _ (Ne.symm h2)]

/-! ## what is there behind a crash -/
def Fine (fs : Files) (r : ByteArray) (t : List Int) : Prop := look fs rootN = some (intsOf r) ∧ look fs (fileN r) = some t
theorem Fine.root {d : D} {r : ByteArray} {t : List Int} (h : Fine d.now r t) (hd : d.down = false) (hr : named r = true) (ht : nameL t = r) : rootE d = 0 ∧ rootS d = r ∧ getE d r = 0 ∧ getB d r = t := by
  have e1 : readE d rootN = 0 := by unfold readE; rw [hd, h.1]; rfl
  have e2 : readB d rootN = intsOf r := by unfold readB; rw [hd, h.1]; rfl
  have e3 : readE d (fileN r) = 0 := by unfold readE; rw [hd, h.2]; rfl
  have e4 : readB d (fileN r) = t := by unfold readB; rw [hd, h.2]; rfl
  have e5 : rootE d = 0 := by unfold rootE; rw [e1, e2, toS_intsOf, hr]; rfl
  have e6 : getE d r = 0 := by unfold getE; rw [e3, e4, ht, hr]; simp
  exact ⟨e5, by unfold rootS; rw [e5, e2, toS_intsOf]; rfl, e6, by unfold getB; rw [e6, e4]; rfl⟩
theorem crash_keeps {n : ByteArray} : ∀ (cs : List Chg) (fs : Files) (ks : List Bool), (∀ c ∈ cs, c.k = 0 ∧ c.a ≠ n) → look (crashF fs cs ks) n = look fs n
  | [], fs, ks, _ => by rw [crashF_nil]
  | c :: cs, fs, [], _ => by rw [crashF_none]
  | c :: cs, fs, k :: ks, h => by
    rw [crashF, crash_keeps cs _ ks (fun c' h' => h c' (by simp [h']))]
    split
    · obtain ⟨h1, h2⟩ := h c (by simp)
      unfold appl
      rw [if_pos h1, look_put_far _ h2]
    · rfl
/-- A root that stands, with changes that leave it, and its file, alone. -/
structure PD (A : ByteArray) (t : List Int) (d : D) : Prop where
  now : Fine d.now A t
  old : Fine d.old A t
  ch : ∀ c ∈ d.ch, c.k = 0 ∧ c.a ≠ rootN ∧ c.a ≠ fileN A
section
variable {A : ByteArray} {t : List Int} {d : D}
theorem PD.crash (h : PD A t d) (ks : List Bool) : Fine (crashF d.old d.ch ks) A t :=
  ⟨(crash_keeps _ _ _ (fun c hc => ⟨(h.ch c hc).1, (h.ch c hc).2.1⟩)).trans h.old.1, (crash_keeps _ _ _ (fun c hc => ⟨(h.ch c hc).1, (h.ch c hc).2.2⟩)).trans h.old.2⟩
theorem PD.off (h : PD A t d) : PD A t { d with down := true } := ⟨h.now, h.old, h.ch⟩
theorem PD.write (h : PD A t d) (code : Int) {n : ByteArray} {l : List Int} (h1 : n ≠ rootN) (h2 : n ≠ fileN A) : PD A t (actD d code ⟨0, n, ByteArray.empty, l⟩) := by
  unfold actD
  split
  · exact h.off
  · split
    · refine ⟨⟨?_, ?_⟩, h.old, fun c hc => ?_⟩
      · show look (put d.now n l) rootN = _
        rw [look_put_far _ h1]
        exact h.now.1
      · show look (put d.now n l) (fileN A) = _
        rw [look_put_far _ h2]
        exact h.now.2
      · rcases List.mem_append.1 hc with h' | h'
        · exact h.ch c h'
        · rw [List.mem_singleton.1 h']
          exact ⟨rfl, h1, h2⟩
    · exact h
theorem PD.sync (h : PD A t d) : PD A t (syncD d) := by
  unfold syncD
  split
  · exact h.off
  · exact ⟨h.now, h.now, fun c hc => by cases hc⟩
theorem PD.fuseI (h : PD A t d) (k : Int) : PD A t (fuseD d k) := ⟨h.now, h.old, h.ch⟩
theorem file_ne_root {s : ByteArray} (h : named s = true) : fileN s ≠ rootN := ne_size (by rw [file_size h]; decide)
theorem file_ne_fresh {s : ByteArray} (h : named s = true) : fileN s ≠ freshN := ne_size (by rw [file_size h]; decide)
theorem PD.put (h : PD A t d) (l : List Int) : PD A t (putD d l) := by
  unfold putD
  split
  · rename_i h12
    refine h.write _ (file_ne_root (named_nameL l)) (fun e => ?_)
    unfold readE at h12
    rw [e, h.now.2] at h12
    split at h12 <;> cases h12
  · exact h
/-- What was put, and answered OK, is there. -/
theorem put_there (l : List Int) (h : putE d l = 0) : look (putD d l).now (fileN (nameL l)) = some l := by
  obtain ⟨f, hf⟩ : ∃ f, f = fileN (nameL l) := ⟨_, rfl⟩
  unfold putE at h
  unfold putD
  rw [← hf] at h ⊢
  by_cases h12 : readE d f = 12
  · rw [if_pos h12] at h ⊢
    unfold writeE actE at h
    unfold writeD actD
    split at h
    · cases h
    · rename_i ho
      rw [if_neg ho, if_pos h]
      exact look_put_same _ _ _
  · rw [if_neg h12] at h ⊢
    split at h
    · cases h
    · rename_i hn
      have hb : readB d f = l := by
        by_cases hb : readB d f = l
        · exact hb
        · exact absurd ⟨h, hb⟩ hn
      unfold readE at h
      unfold readB at hb
      split at h
      · cases h
      · rename_i hd
        rw [if_neg hd] at hb
        cases hl : look d.now f with
        | none => rw [hl] at h; cases h
        | some x =>
          rw [hl] at hb
          exact congrArg some hb
theorem sync_no (h : syncE d ≠ 0) : syncD d = { d with down := true } := by
  unfold syncE actE at h
  unfold syncD
  split at h
  · rename_i ho
    rw [if_pos ho]
  · exact absurd rfl h
theorem sync_yes (h : syncE d = 0) : syncD d = { ranD d with old := d.now, ch := [] } := by
  unfold syncE actE at h
  unfold syncD
  split at h
  · cases h
  · rename_i ho
    rw [if_neg ho]
theorem act_no {code : Int} {c : Chg} (h : actE d code ≠ 0) : actD d code c = d ∨ actD d code c = { d with down := true } := by
  unfold actE at h
  unfold actD
  split at h
  · rename_i ho
    rw [if_pos ho]
    exact .inr rfl
  · rename_i ho
    rw [if_neg ho, if_neg h]
    exact .inl rfl
theorem act_yes {code : Int} {c : Chg} (h : actE d code = 0) : actD d code c = { ranD d with now := appl d.now c, ch := d.ch ++ [c] } := by
  unfold actE at h
  unfold actD
  split at h
  · cases h
  · rename_i ho
    rw [if_neg ho, if_pos h]
/-- SetRoot, wherever the power goes: behind a crash the root is the one that was, or the new one. -/
theorem set_once {b : ByteArray} {u : List Int} (h : PD A t d) (hA : named A = true) (hb : named b = true) (hu : look d.now (fileN b) = some u) (ks : List Bool) :
    (Fine (crashF (setD d b).old (setD d b).ch ks) A t ∧ setE d b ≠ 0) ∨ Fine (crashF (setD d b).old (setD d b).ch ks) b u := by
  unfold setE setD
  rw [hb, if_neg (by decide), if_neg (by decide)]
  unfold setF
  by_cases c1 : (syncF d).1 = 0
  · rw [runS_go c1 rfl]
    have h1 : PD A t (syncD d) := h.sync
    have n1 : (syncD d).now = d.now := by rw [sync_yes c1]; rfl
    show (Fine (crashF (runS _ (syncD d)).2.old (runS _ (syncD d)).2.ch ks) A t ∧ _) ∨ _
    change (Fine (crashF (runS [freshF b, syncF, moveF, syncF] (syncD d)).2.old (runS [freshF b, syncF, moveF, syncF] (syncD d)).2.ch ks) A t ∧ (runS [freshF b, syncF, moveF, syncF] (syncD d)).1 ≠ 0) ∨ Fine (crashF (runS [freshF b, syncF, moveF, syncF] (syncD d)).2.old (runS [freshF b, syncF, moveF, syncF] (syncD d)).2.ch ks) b u
    rw [← n1] at hu
    generalize syncD d = d1 at *
    have h2 : PD A t (writeD d1 freshN (intsOf b)) := h1.write _ fresh_ne_root (Ne.symm (file_ne_fresh hA))
    by_cases c2 : (freshF b d1).1 = 0
    · rw [runS_go c2 rfl]
      have e2 : writeD d1 freshN (intsOf b) = _ := act_yes (c := ⟨0, freshN, ByteArray.empty, intsOf b⟩) (show actE d1 (wrE d1 freshN (intsOf b).length) = 0 from c2)
      have f2 : look (writeD d1 freshN (intsOf b)).now freshN = some (intsOf b) := by rw [e2]; exact look_put_same _ _ _
      have u2 : look (writeD d1 freshN (intsOf b)).now (fileN b) = some u := by
        rw [e2]
        show look (put d1.now freshN (intsOf b)) (fileN b) = _
        rw [look_put_far _ (Ne.symm (file_ne_fresh hb))]
        exact hu
      change (Fine (crashF (runS [syncF, moveF, syncF] (writeD d1 freshN (intsOf b))).2.old (runS [syncF, moveF, syncF] (writeD d1 freshN (intsOf b))).2.ch ks) A t ∧ (runS [syncF, moveF, syncF] (writeD d1 freshN (intsOf b))).1 ≠ 0) ∨ Fine (crashF (runS [syncF, moveF, syncF] (writeD d1 freshN (intsOf b))).2.old (runS [syncF, moveF, syncF] (writeD d1 freshN (intsOf b))).2.ch ks) b u
      clear e2 c2 hu h1
      generalize writeD d1 freshN (intsOf b) = d2 at *
      have h3 : PD A t (syncD d2) := h2.sync
      by_cases c3 : (syncF d2).1 = 0
      · rw [runS_go c3 rfl]
        have e3 := sync_yes c3
        have n3 : (syncD d2).now = d2.now := by rw [e3]; rfl
        have o3 : (syncD d2).old = d2.now := by rw [e3]
        have k3 : (syncD d2).ch = [] := by rw [e3]
        change (Fine (crashF (runS [moveF, syncF] (syncD d2)).2.old (runS [moveF, syncF] (syncD d2)).2.ch ks) A t ∧ (runS [moveF, syncF] (syncD d2)).1 ≠ 0) ∨ Fine (crashF (runS [moveF, syncF] (syncD d2)).2.old (runS [moveF, syncF] (syncD d2)).2.ch ks) b u
        rw [← n3] at f2 u2
        clear e3 c3
        rw [← n3] at o3
        clear n3
        generalize syncD d2 = d3 at *
        by_cases c4 : (moveF d3).1 = 0
        · rw [runS_go c4 rfl]
          have e4 : renameD d3 freshN rootN = _ := act_yes (c := ⟨1, freshN, rootN, []⟩) (show actE d3 (renE d3 freshN rootN) = 0 from c4)
          have ha : appl d3.now ⟨1, freshN, rootN, []⟩ = put (del d3.now freshN) rootN (intsOf b) := by
            unfold appl
            rw [if_neg (by decide), if_pos (by rfl)]
            show (match look d3.now freshN with | some t => put (del d3.now freshN) rootN t | none => d3.now) = _
            rw [f2]
          have hfin : Fine (put (del d3.now freshN) rootN (intsOf b)) b u := ⟨look_put_same _ _ _, by rw [look_put_far _ (Ne.symm (file_ne_root hb)), look_del_other _ (Ne.symm (file_ne_fresh hb))]; exact u2⟩
          have n4 : (renameD d3 freshN rootN).now = put (del d3.now freshN) rootN (intsOf b) := by rw [e4]; exact ha
          have o4 : (renameD d3 freshN rootN).old = d3.now := by rw [e4]; exact o3
          have k4 : (renameD d3 freshN rootN).ch = [⟨1, freshN, rootN, []⟩] := by
            rw [e4]
            show d3.ch ++ _ = _
            rw [k3]
            rfl
          change (Fine (crashF (runS [syncF] (renameD d3 freshN rootN)).2.old (runS [syncF] (renameD d3 freshN rootN)).2.ch ks) A t ∧ (runS [syncF] (renameD d3 freshN rootN)).1 ≠ 0) ∨ Fine (crashF (runS [syncF] (renameD d3 freshN rootN)).2.old (runS [syncF] (renameD d3 freshN rootN)).2.ch ks) b u
          generalize renameD d3 freshN rootN = d4 at *
          by_cases c5 : (syncF d4).1 = 0
          · rw [runS_go c5 rfl]
            right
            have e5 := sync_yes c5
            show Fine (crashF (syncD d4).old (syncD d4).ch ks) b u
            rw [e5]
            show Fine (crashF d4.now [] ks) b u
            rw [crashF_nil, n4]
            exact hfin
          · rw [runS_no c5]
            have e5 : syncD d4 = _ := sync_no c5
            change (Fine (crashF (syncD d4).old (syncD d4).ch ks) A t ∧ (syncF d4).1 ≠ 0) ∨ Fine (crashF (syncD d4).old (syncD d4).ch ks) b u
            rw [e5]
            show (Fine (crashF d4.old d4.ch ks) A t ∧ _) ∨ Fine (crashF d4.old d4.ch ks) b u
            rw [o4, k4]
            cases ks with
            | nil => rw [crashF_none]; exact .inl ⟨h3.now, c5⟩
            | cons k ks =>
              rw [crashF, crashF_nil]
              cases k with
              | true => right; rw [if_pos rfl, ha]; exact hfin
              | false => left; rw [if_neg (by decide)]; exact ⟨h3.now, c5⟩
        · rw [runS_no c4]
          left
          refine ⟨?_, c4⟩
          show Fine (crashF (renameD d3 freshN rootN).old (renameD d3 freshN rootN).ch ks) A t
          rcases act_no (c := ⟨1, freshN, rootN, []⟩) (show actE d3 (renE d3 freshN rootN) ≠ 0 from c4) with e | e
          · rw [show renameD d3 freshN rootN = d3 from e]; exact h3.crash ks
          · rw [show renameD d3 freshN rootN = _ from e]; exact h3.off.crash ks
      · rw [runS_no c3]
        exact .inl ⟨h3.crash ks, c3⟩
    · rw [runS_no c2]
      exact .inl ⟨h2.crash ks, c2⟩
  · rw [runS_no c1]
    exact .inl ⟨h.sync.crash ks, c1⟩
end
end Go.Proofs.Ytnjdighpdcabcaa
/- The live question of the store's statements. -/
set_option linter.unusedVariables false
set_option linter.unusedSimpArgs false
namespace Go.Proofs.Ytnjdighpdcabcaa
open Go.RowKit Go.Proofs.YtnjdighpdcabcaaW.PrintWords Go.Proofs.YtnjdighpdcabcaaW.PrintLast Go.Proofs.YtnjdighpdcabcaaW.PrintMore

theorem files_F {w0 w : World} {F : Nat → Prop} {g : Nat} {d : D} (h : DiskF w0 w F g d) (hsm : Small d) :
    Calls Try.prog 20 #[pt g] w fun r w' => ∃ A c, r = .returned (.slice A d.now.length c) ∧ d.now.length ≤ c ∧ Kd.C kFile w' A d.now.length d.now ∧ Below w.heap.size w w' := h.look (fun S hS => (files_any w _ g S d hS hsm).mono (by
  rintro r w' ⟨v, rfl, hR, hB⟩
  obtain ⟨A, c, rfl, h1, h2⟩ := Kd.R_reads hR
  exact ⟨A, c, rfl, h1, h2, hB⟩))
def nAbc : ByteArray := ⟨#[98, 97, 55, 56, 49, 54, 98, 102, 56, 102, 48, 49, 99, 102, 101, 97, 52, 49, 52, 49, 52, 48, 100, 101, 53, 100, 97, 101, 50, 50, 50, 51, 98, 48, 48, 51, 54, 49, 97, 51, 57, 54, 49, 55, 55, 97, 57, 99, 98, 52, 49, 48, 102, 102, 54, 49, 102, 50, 48, 48, 49, 53, 97, 100]⟩
theorem nameL_abc : nameL [97, 98, 99] = nAbc := name_abc
def a0D : D := newD 1000
def a1D : D := writeD a0D (fileN nAbc) [97, 98, 99]
def a2D : D := setD a1D nAbc
theorem a0R : readE a0D (fileN nAbc) = 12 := by kernel_rfl
theorem a0W : writeE a0D (fileN nAbc) [97, 98, 99] = 0 := by kernel_rfl
theorem a1R : readE a1D (fileN nAbc) = 0 := by kernel_rfl
theorem a1B : readB a1D (fileN nAbc) = [97, 98, 99] := by kernel_rfl
theorem a0E : putE a0D [97, 98, 99] = 0 := by unfold putE; rw [nameL_abc, a0R, if_pos rfl, a0W]
theorem a0P : putD a0D [97, 98, 99] = a1D := by unfold putD; rw [nameL_abc, a0R, if_pos rfl]; rfl
theorem a0N : putN a0D [97, 98, 99] = nAbc := by unfold putN; rw [a0E, nameL_abc]; rfl
theorem a1E : putE a1D [97, 98, 99] = 0 := by unfold putE; rw [nameL_abc, a1R, a1B]; rfl
theorem a1P : putD a1D [97, 98, 99] = a1D := by unfold putD; rw [nameL_abc, a1R]; rfl
theorem a1N : putN a1D [97, 98, 99] = nAbc := by unfold putN; rw [a1E, nameL_abc]; rfl
theorem named_nAbc : named nAbc = true := by kernel_rfl
theorem a1G : getE a1D nAbc = 0 := by unfold getE; rw [named_nAbc, a1R, a1B, nameL_abc]; simp
theorem a1GB : getB a1D nAbc = [97, 98, 99] := by unfold getB; rw [a1G, a1B]; rfl
theorem a1S : setE a1D nAbc = 0 := by kernel_rfl
theorem a2R : rootE a2D = 0 := by kernel_rfl
theorem a2S : rootS a2D = nAbc := by kernel_rfl
theorem a2X : getE a2D ⟨#[120]⟩ = 1 := by kernel_rfl
theorem a2L : a2D.now.length = 2 := by kernel_rfl
theorem a0I : InvD 0 a0D := InvD.new 1000 (by omega)
theorem a1I : InvD 1 a1D := a0I.write _ (fun x hx => by simp at hx; omega)
theorem a2I : InvD 6 a2D := a1I.set nAbc
theorem wf_abc : Wf [97, 98, 99] := fun x hx => by simp at hx; omega
theorem lit_abc : ((strOfNums [97, 98, 99]).toList == [97, 98, 99]) = true := by
  rw [ByteArray.toList_eq]
  rfl
theorem head_facts : ∃ (nm : ByteArray) (d0 d1 d2 : D), newD 1000 = d0 ∧ (putE d0 [97, 98, 99] = 0 ∧ putD d0 [97, 98, 99] = d1 ∧ putN d0 [97, 98, 99] = nm) ∧ (putE d1 [97, 98, 99] = 0 ∧ putD d1 [97, 98, 99] = d1 ∧ putN d1 [97, 98, 99] = nm) ∧
    (getE d1 nm = 0 ∧ getB d1 nm = [97, 98, 99] ∧ (readB d1 (fileN nm)).length < 1000000000) ∧ (setE d1 nm = 0 ∧ setD d1 nm = d2) ∧ (rootE d2 = 0 ∧ rootS d2 = nm) ∧ (getE d2 ⟨#[120]⟩ = 1 ∧ (readB d2 (fileN ⟨#[120]⟩)).length < 1000000000) ∧ d2.now.length = 2 ∧ InvD 0 d0 ∧ InvD 1 d1 ∧ InvD 6 d2 :=
  ⟨nAbc, a0D, a1D, a2D, rfl, ⟨a0E, a0P, a0N⟩, ⟨a1E, a1P, a1N⟩, ⟨a1G, a1GB, by rw [a1B]; decide⟩, ⟨a1S, rfl⟩, ⟨a2R, a2S⟩, ⟨a2X, by rw [show readB a2D (fileN ⟨#[120]⟩) = [] by kernel_rfl]; decide⟩, a2L, a0I, a1I, a2I⟩
/-- Bytes in a block that does not turn. -/
theorem C_turn {w w' : World} {S : Nat → Prop} {A : Option Addr} {n : Nat} {l : List Int} (h : Kd.C (Kd.int .u8) w A n l) (k : Turns S w w') (hA : ∀ ad, A = some ad → ¬ S ad.block) : Kd.C (Kd.int .u8) w' A n l := by
  refine ⟨h.1, h.2.1, fun hn => ?_⟩
  obtain ⟨ad, e, hc⟩ := h.2.2 hn
  refine ⟨ad, e, fun j t hj => ?_⟩
  obtain ⟨c, hl, hr, hcell⟩ := hc j t hj
  refine ⟨c, hl, hr, fun i u hu => ?_⟩
  have h1 := hcell i u hu
  have hb := World.block_lt_of_cell? w _ h1
  have h2 := k.block _ hb (by rw [show (ad.add (j * (Kd.int .u8).sz + i)).block = ad.block by unfold Addr.add; split <;> rfl]; exact hA ad e)
  unfold World.cell? at h1 ⊢
  rw [h2]
  exact h1
theorem R_block {e : TypeId} {w : World} {base : Nat} {ok : Nat → Prop} {A : Option Addr} {n c : Nat} {xs : List Int} (h : Kd.R (Kd.int .u8) e w base ok (.slice A n c) xs) : ∀ ad, A = some ad → base ≤ ad.block := by
  obtain ⟨inner, ho⟩ := Kd.R_own h
  exact fun ad e => own_base ho ad.block (by subst e; rfl)
set_option maxRecDepth 100000 in
set_option maxHeartbeats 4000000 in
theorem head_any (w : World) : Calls Try.prog 6 #[] w fun r w' => r = .returned (.bool true) ∧ Below w.heap.size w w' := by
  have kc := fun (w : World) (C : Array Value) (n c : Nat) => Lib.run_convert_bytes_const (P := Try.prog) w 32 5 C n c Try.underlying32 Try.underlying5
  obtain ⟨nm, d0, d1, d2, E0, E1, E2, E3, E4, E5, E6, E7, I0, I1, I2⟩ := head_facts
  have H0 := Lib.hid (And.intro E0 (And.intro E1 (And.intro E2 E3)))
  have H1 := Lib.hid (And.intro E4 (And.intro E5 (And.intro E6 E7)))
  have HI := Lib.hid (And.intro I0 (And.intro I1 I2))
  clear E0 E1 E2 E3 E4 E5 E6 E7 I0 I1 I2
  go_enter Try.func6, Try.ntmps6
  go_wp2_with fail
  refine (new_F 1000 w w (Below.refl _ _) (fun _ => False) (fun _ h => h.elim)).mono ?_
  rw [H0.out.1]
  rintro r w1 ⟨g, rfl, hD1, _⟩
  have HD1 := Lib.hid hD1
  clear hD1
  go_wp2_with fail
  refine (put_F (HD1.out.below ((Below.refl _ _).alloc (Nat.le_refl _) _)) (HI.out.1.small (by omega)) HI.out.1.wf _ 3 3 [97, 98, 99] rfl wf_abc (lit_C w1 [97, 98, 99] _ _ 3 rfl (by omega)) (Nat.le_refl _) (by omega)).mono ?_
  rw [H0.out.2.1.1, H0.out.2.1.2.1, H0.out.2.1.2.2]
  rintro r w2 ⟨rfl, hD2, _⟩
  have HD2 := Lib.hid hD2
  clear hD2 HD1
  go_wp2_with fail
  refine (put_F (HD2.out.below ((Below.refl _ _).alloc (Nat.le_refl _) _)) (HI.out.2.1.small (by omega)) HI.out.2.1.wf _ 3 3 [97, 98, 99] rfl wf_abc (lit_C w2 [97, 98, 99] _ _ 3 rfl (by omega)) (Nat.le_refl _) (by omega)).mono ?_
  rw [H0.out.2.2.1.1, H0.out.2.2.1.2.1, H0.out.2.2.1.2.2]
  rintro r w3 ⟨rfl, hD3, _⟩
  have HD3 := Lib.hid hD3
  clear hD3 HD2
  go_wp2_with fail
  have hgt := get_F HD3.out (HI.out.2.1.small (by omega)) HI.out.2.1.wf nm H0.out.2.2.2.2.2
  rw [H0.out.2.2.2.1, H0.out.2.2.2.2.1] at hgt
  refine hgt.mono ?_
  clear hgt
  rintro r w4 ⟨v, rfl, hR, hB4⟩
  obtain ⟨A4, c4, rfl, _, hC4⟩ := Kd.R_reads hR
  have HD4 := Lib.hid (HD3.out.keep hB4)
  obtain ⟨F, hF⟩ : ∃ F, F = Since (fun _ => False) w3 w4 := ⟨_, rfl⟩
  have HC4 := Lib.hid (And.intro hC4 (R_block hR))
  have HF := Lib.hid hF
  rw [← hF] at HD4
  clear hR hC4 hB4 HD3 hF
  rw [show ([97, 98, 99] : List Int).length = 3 from rfl] at HC4 ⊢
  go_wp2_with fail
  have hst := set_F HD4.out 1 HI.out.2.1 (by omega) nm
  rw [H1.out.1.1, H1.out.1.2] at hst
  refine hst.mono ?_
  clear hst
  rintro r w5 ⟨rfl, hD5, hT5⟩
  have hC5 := C_turn HC4.out.1 hT5 (fun ad e hs => hs.2 (by
    rw [HF.out]
    refine .inr ⟨HC4.out.2 ad e, ?_⟩
    obtain ⟨ad', e', hc'⟩ := HC4.out.1.2.2 (by decide)
    obtain ⟨cl, hl, hk, hcell⟩ := hc' 0 97 rfl
    obtain rfl : ad = ad' := Option.some.inj (e.symm.trans e')
    have hk' : cl = [.int .u8 97] := hk
    subst hk'
    exact World.block_lt_of_cell? w4 _ (hcell 0 _ rfl)))
  have HD5 := Lib.hid hD5
  have HC5 := Lib.hid hC5
  clear hD5 hT5 hC5 HC4 HD4
  go_wp2_with fail
  have hrt := root_F HD5.out (HI.out.2.2.small (by omega)) HI.out.2.2.wf
  rw [H1.out.2.1.1, H1.out.2.1.2] at hrt
  refine hrt.mono ?_
  clear hrt
  rintro r w6 ⟨rfl, hB6⟩
  have HD6 := Lib.hid (HD5.out.below hB6)
  have HC6 := Lib.hid (Kd.C_below HC5.out hB6)
  clear hB6 HD5 HC5
  go_wp2_with fail
  have hgt := get_F HD6.out (HI.out.2.2.small (by omega)) HI.out.2.2.wf ⟨#[120]⟩ H1.out.2.2.1.2
  rw [H1.out.2.2.1.1] at hgt
  refine hgt.mono ?_
  clear hgt
  rintro r w7 ⟨v, rfl, hR, hB7⟩
  have HD7 := Lib.hid (HD6.out.below hB7)
  have hst : (convert 32 9 (.slice A4 3 c4)).run Try.prog w7 = .ok (.string (strOfNums [97, 98, 99])) w7 := Kd.C_string Try.underlying32 Try.underlying5 Try.underlying9 (Kd.C_below HC6.out hB7)
  have hx := lit_abc
  have hfl := files_F HD7.out (HI.out.2.2.small (by omega))
  rw [H1.out.2.2.2] at hfl
  have HFL := Lib.hid hfl
  clear hR hB7 HD6 HC6 hfl
  go_wp2_with fail
  refine HFL.out.mono ?_
  rintro r w8 ⟨A8, c8, rfl, _, _, hB8⟩
  have HB8 := Lib.hid hB8
  clear hB8
  go_wp2_with fail
  go_ret
  exact ⟨rfl, HD7.out.hB.trans (HB8.out.mono HD7.out.hB.size)⟩
end Go.Proofs.Ytnjdighpdcabcaa
