/- What calls of a disk give: plain. -/
import Derived.Test.YtnjdighpdcabcaaWWords
import Derived.Deep.Slices
import Derived.SizedLaws
import Derived.WideShapes
import Derived.Test.YtnjdighpdcabcaaDy
import Derived.Shelf.AbstractIn
set_option linter.unusedVariables false
set_option linter.unusedSimpArgs false
/-! What an argument that can be read as data is, in the words of the kinds (Kd): type by type. -/
namespace Go.Proofs.Ytnjdighpdcabcaa
open Go.RowKit Go.Proofs.YtnjdighpdcabcaaW.PrintWords

/-- Whatever is read at type t is of kind d, and 'good'. -/
structure Opens {α : Type} (P : Program) (t : TypeId) (d : Kd α) (good : α → Prop) : Prop where
  run : ∀ {H : Type} {enc : TypeId × Value → H} {w : World} {base : Nat} {spare : Nat → Bool} {held : Bool} {fuel : Nat} {cs : List Value} {x : DataW H × List MemPlace},
    DataW.trod enc P w base spare held fuel t cs = some x → (∀ n ∈ x.1.weights P t, n ≤ reachBytes) → ∃ a, d.K w a cs ∧ good a

theorem Opens.int {P : Program} {t : TypeId} {k : IntKind} (ht : P.underlying t = some (.int k)) : Opens P t (Kd.int k) (fun n => (Lit.int k n).wf = true) := by
  refine ⟨?_⟩
  intro H enc w base spare held fuel cs x h _
  obtain ⟨n, rfl, rfl, hw⟩ := DataW.trod_int ht h
  exact ⟨n, rfl, hw⟩
theorem Opens.bool {P : Program} {t : TypeId} (ht : P.underlying t = some .bool) : Opens P t Kd.bool (fun _ => True) := by
  refine ⟨?_⟩
  intro H enc w base spare held fuel cs x h _
  obtain ⟨b, rfl, rfl⟩ := DataW.trod_bool ht h
  exact ⟨b, rfl, trivial⟩
theorem Opens.string {P : Program} {t : TypeId} (ht : P.underlying t = some .string) : Opens P t Kd.string (fun s => s.size ≤ 140737488351232) := by
  refine ⟨?_⟩
  intro H enc w base spare held fuel cs x h hw
  obtain ⟨s, rfl, rfl, _⟩ := DataW.trod_string ht h
  refine ⟨s, rfl, ?_⟩
  have := hw s.data.toList.length (by simp [DataW.weights])
  rw [Array.length_toList] at this
  exact this

theorem weights_all {H : Type} {P : Program} {e : TypeId} : ∀ {l : List (DataW H)} {d : DataW H}, d ∈ l → ∀ n ∈ d.weights P e, n ∈ DataW.weightsAll P e l
  | [], _, h, _, _ => by cases h
  | a :: l, d, h, n, hn => by
    simp only [DataW.weightsAll, List.mem_append]
    rcases List.mem_cons.1 h with rfl | h
    · exact .inl hn
    · exact .inr (weights_all h n hn)

theorem Opens.slice {α : Type} {P : Program} {t e : TypeId} {d : Kd α} {good : α → Prop} {B : Nat} (ht : P.underlying t = some (.slice e)) (hc : P.cellsOf e = d.sz) (hB : P.bytesOf e = B) (ho : Opens P e d good) :
    Opens P t (Kd.slice e d) (fun xs => xs.length * B ≤ 140737488351232 ∧ ∀ x ∈ xs, good x) := by
  classical
  refine ⟨?_⟩
  intro H enc w base spare held fuel cs x h hw
  rcases Go.Deep.open_slice ht h with ⟨rfl, rfl⟩ | ⟨a, len, cap, m, n, D, Pl, rfl, hb, hl, hm, hmm, rfl, hx⟩
  · exact ⟨[], ⟨none, 0, rfl, Nat.le_refl _, ⟨rfl, by simp, fun h => by simp at h⟩⟩, by simp, by simp⟩
  · have hlm : len ≤ m := by rw [hmm]; split <;> omega
    have hw' : ∀ n ∈ (DataW.slice ((List.range len).map D) ((List.range (m - len)).map fun j => D (len + j))).weights P t, n ≤ reachBytes := hw
    simp only [DataW.weights, ht, List.mem_cons, List.mem_append, List.length_map, List.length_range] at hw'
    have hsz : len * B ≤ 140737488351232 := by
      have := hw' _ (.inl rfl)
      rw [hB] at this
      have h2 : len * B ≤ (len + (m - len)) * B := Nat.mul_le_mul_right _ (by omega)
      exact Nat.le_trans h2 this
    have hel : ∀ i, i < len → ∃ p : α × List Value, p.2.length = d.sz ∧ d.K w p.1 p.2 ∧ good p.1 ∧ ∀ j u, p.2[j]? = some u → w.cell? (a.add (i * d.sz + j)) = some u := by
      intro i hi
      obtain ⟨cs', h1, h2⟩ := hx i (by omega)
      obtain ⟨y, hK, hg⟩ := ho.run h2 (fun n hn => hw' n (.inr (.inl (weights_all (List.mem_map.2 ⟨i, List.mem_range.2 hi, rfl⟩) n hn))))
      obtain ⟨_, hlen, hcell⟩ := World.cells?_some h1
      rw [hc] at hlen hcell
      refine ⟨(y, cs'), hlen, hK, hg, fun j u hu => ?_⟩
      have hj : j < d.sz := by rw [← hlen]; exact (List.getElem?_eq_some_iff.1 hu).1
      have := hcell j hj
      rw [Go.Deep.add_add] at this
      rw [this]
      exact hu
    by_cases h0 : len = 0
    · subst h0
      exact ⟨[], ⟨some a, cap, rfl, Nat.zero_le _, ⟨rfl, by simp, fun h => by simp at h⟩⟩, by simp, by simp⟩
    · haveI : Inhabited (α × List Value) := ⟨Classical.choose (hel 0 (by omega))⟩
      obtain ⟨F, hF⟩ := Go.Deep.choose_lt hel
      refine ⟨(List.range len).map fun i => (F i).1, ⟨some a, cap, by simp, by simpa using hl, ?_⟩, by simpa using hsz, ?_⟩
      · refine ⟨rfl, ?_, fun _ => ⟨a, rfl, fun j p hp => ?_⟩⟩
        · have := maxLen
          simp only [List.length_map, List.length_range]
          simp only [maxLen] at hm
          omega
        · have hj : j < len := by simpa using (List.getElem?_eq_some_iff.1 hp).1
          obtain ⟨h1, h2, h3, h4⟩ := hF j hj
          have e : (F j).1 = p := by simpa [List.getElem?_map, List.getElem?_range hj] using hp
          refine ⟨(F j).2, h1, by rw [← e]; exact h2, h4⟩
      · intro x hx
        obtain ⟨i, hi, rfl⟩ := List.mem_map.1 hx
        exact (hF i (List.mem_range.1 hi)).2.2.1

/-- Fields one behind the other, from a place on. -/
structure OpensF {α : Type} (P : Program) (fs : List Field) (off : Nat) (d : Kd α) (good : α → Prop) : Prop where
  run : ∀ {H : Type} {enc : TypeId × Value → H} {w : World} {base : Nat} {spare : Nat → Bool} {held : Bool} {n : Nat} {cs : List Value} {xs : List (DataW H × List MemPlace)},
    cs.length = off + d.sz → xs.length = fs.length →
    (∀ (i : Nat) (f : Field), fs[i]? = some f → DataW.trod enc P w base spare held n f.type ((cs.drop f.offset).take (P.cellsOf f.type)) = xs[i]?) →
    (∀ n ∈ DataW.weightsEach P (fs.map (·.type)) (xs.map (·.1)), n ≤ reachBytes) → ∃ a, d.K w a (cs.drop off) ∧ good a

theorem OpensF.one {α : Type} {P : Program} {f : Field} {off : Nat} {d : Kd α} {good : α → Prop} (hoff : f.offset = off) (hc : P.cellsOf f.type = d.sz) (ho : Opens P f.type d good) : OpensF P [f] off d good := by
  refine ⟨?_⟩
  intro H enc w base spare held n cs xs hlen hxs hf hw
  match xs, hxs with
  | [x], _ =>
    have h := hf 0 f rfl
    rw [hoff, hc] at h
    have e : (cs.drop off).take d.sz = cs.drop off := List.take_of_length_le (by rw [List.length_drop]; omega)
    rw [e] at h
    exact ho.run h (fun n hn => hw n (by simp only [List.map_cons, List.map_nil, DataW.weightsEach, List.append_nil]; exact hn))

theorem OpensF.cons {α β : Type} {P : Program} {f : Field} {fs : List Field} {off : Nat} {d : Kd α} {d' : Kd β} {good : α → Prop} {good' : β → Prop} (hoff : f.offset = off) (hc : P.cellsOf f.type = d.sz) (ho : Opens P f.type d good)
    (hs : OpensF P fs (off + d.sz) d' good') : OpensF P (f :: fs) off (Kd.pair d d') (fun p => good p.1 ∧ good' p.2) := by
  refine ⟨?_⟩
  intro H enc w base spare held n cs xs hlen hxs hf hw
  match xs, hxs with
  | x :: xs, hxs =>
    have h := hf 0 f rfl
    rw [hoff, hc] at h
    have hlen' : cs.length = off + (d.sz + d'.sz) := hlen
    simp only [List.map_cons, DataW.weightsEach, List.mem_append] at hw
    obtain ⟨a, ha, ga⟩ := ho.run h (fun n hn => hw n (.inl hn))
    obtain ⟨b, hb, gb⟩ := hs.run (cs := cs) (xs := xs) (by omega) (by simpa using hxs) (fun i f hi => by simpa using hf (i + 1) f (by simpa using hi)) (fun n hn => hw n (.inr hn))
    refine ⟨(a, b), ⟨_, _, ?_, ha, hb⟩, ga, gb⟩
    rw [← List.drop_drop, List.take_append_drop]

theorem Opens.struct {α : Type} {P : Program} {t : TypeId} {fs : Array Field} {d : Kd α} {good : α → Prop} (ht : P.underlying t = some (.struct fs)) (hc : P.cellsOf t = d.sz) (ho : OpensF P fs.toList 0 d good) : Opens P t d good := by
  refine ⟨?_⟩
  intro H enc w base spare held fuel cs x h hw
  obtain ⟨xs, n, rfl, rfl, hlen, hxs, hf⟩ := DataW.trod_struct ht h
  have hw' : ∀ n ∈ (DataW.agg (xs.map (·.1))).weights P t, n ≤ reachBytes := hw
  simp only [DataW.weights, ht] at hw'
  have := ho.run (cs := cs) (xs := xs) (by rw [hlen, hc]; omega) (by simpa using hxs) (fun i f hi => hf i f (by simpa using hi)) hw'
  simpa using this

theorem Opens.iso {α β : Type} {P : Program} {t : TypeId} {d : Kd α} {good : α → Prop} (ho : Opens P t d good) (f : β → α) (g : α → β) (hfg : ∀ a, f (g a) = a) : Opens P t (Kd.iso d f) (fun b => good (f b)) := by
  refine ⟨?_⟩
  intro H enc w base spare held fuel cs x h hw
  obtain ⟨a, ha, hg⟩ := ho.run h hw
  refine ⟨g a, ?_, ?_⟩
  · show d.K w (f (g a)) cs
    rw [hfg]
    exact ha
  · simp only [hfg]
    exact hg

/-- An argument of the row. -/
theorem open_arg {α : Type} {H : Type} {enc : TypeId × Value → H} {P : Program} {w : World} {base : Nat} {spare : Nat → Bool} {held : Bool} {t : TypeId} {d : Kd α} {good : α → Prop} {v : Value} {x : DataW H} {ps : List MemPlace} {ts : List TypeId} {ds : List (DataW H)} {j : Nat}
    (ho : Opens P t d good) (h : DataW.Trod enc P w base spare held t v x ps) (hsz : (DataW.weightsEach P ts ds).all (· ≤ reachBytes) = true) (hj : ts[j]? = some t) (hd : ds[j]? = some x) : ∃ a, d.K w a v.cells.toList ∧ good a := by
  obtain ⟨fuel, hf⟩ := h
  exact ho.run hf (fun n hn => by simpa using List.all_eq_true.1 hsz n (DataW.weights_mem_each hj hd n hn))
end Go.Proofs.Ytnjdighpdcabcaa
set_option linter.unusedVariables false
set_option linter.unusedSimpArgs false
namespace Go.Proofs.Ytnjdighpdcabcaa
open Go.RowKit Go.Proofs.YtnjdighpdcabcaaW.PrintWords Go.Proofs.YtnjdighpdcabcaaW.PrintLast

def goodB (l : List Int) : Prop := l.length * 1 ≤ 140737488351232 ∧ ∀ x ∈ l, (Lit.int .u8 x).wf = true
abbrev kT : Kd (List Int) := Kd.slice 5 (Kd.int .u8)
theorem opens_bytes : Opens Try.prog 32 kT goodB :=
  Opens.slice Try.underlying32 (by kernel_rfl) (B := 1) (by kernel_rfl) (Opens.int Try.underlying5)
theorem bytes_open {w : World} {l : List Int} {A : Option Addr} {n c : Nat} (h : kT.K w l [.slice A n c]) : n = l.length ∧ n ≤ c ∧ Kd.C (Kd.int .u8) w A n l := by
  obtain ⟨A', c', e, l', hr⟩ := h
  injection e with e _
  injection e with a b c
  subst a b c
  exact ⟨rfl, l', hr⟩
section
variable {d : D} {s t : ByteArray} {l : List Int}
theorem write_ok (ho : offD d = false) (h : wrE d s l.length = 0) : writeE d s l = 0 ∧ writeD d s l = { ranD d with now := put d.now s l, ch := d.ch ++ [⟨0, s, ByteArray.empty, l⟩] } := by
  unfold writeE writeD actE actD
  rw [ho, h]
  exact ⟨by simp, by simp [appl]⟩
theorem wrE_ok (hr : rightN s = true) (hl : l.length ≤ 65536) (hn : d.now.length < 512) (hf : (l.length : Int) ≤ d.room - used d.now + oldLen d s) : wrE d s l.length = 0 := by
  unfold wrE
  rw [if_pos hr, if_neg (by omega), if_neg (by omega)]
theorem rename_ok (ho : offD d = false) (hr : rightN t = true) (hs : (look d.now s).isSome = true) : renameE d s t = 0 ∧ renameD d s t = { ranD d with now := appl d.now ⟨1, s, t, []⟩, ch := d.ch ++ [⟨1, s, t, []⟩] } := by
  have h : renE d s t = 0 := by unfold renE noneE; rw [if_pos hr, if_pos hs]
  unfold renameE renameD actE actD
  rw [ho, h]
  exact ⟨by simp, by simp⟩
theorem sync_ok (ho : offD d = false) : syncE d = 0 ∧ syncD d = { ranD d with old := d.now, ch := [] } := by
  unfold syncE syncD actE
  rw [ho]
  exact ⟨by simp, by simp⟩
end
end Go.Proofs.Ytnjdighpdcabcaa
/- A disk of files that are given. -/
set_option linter.unusedVariables false
set_option linter.unusedSimpArgs false
namespace Go.Proofs.Ytnjdighpdcabcaa
open Go.RowKit Go.Proofs.YtnjdighpdcabcaaW.PrintWords Go.Proofs.YtnjdighpdcabcaaW.PrintLast Go.Proofs.YtnjdighpdcabcaaW.PrintMore

abbrev tFile : TypeId := 45
abbrev kFile : Kd (ByteArray × List Int) := Kd.pair Kd.string (Kd.slice 5 (Kd.int .u8))
abbrev kFiles : Kd Files := Kd.slice 45 kFile
def goodFile (x : ByteArray × List Int) : Prop := x.1.size ≤ 140737488351232 ∧ goodB x.2
def goodFiles (l : Files) : Prop := l.length * 40 ≤ 140737488351232 ∧ ∀ x ∈ l, goodFile x
set_option maxRecDepth 100000 in
theorem opens_file : Opens Try.prog 45 kFile goodFile :=
  Opens.struct Try.underlying45 (by kernel_rfl) (OpensF.cons rfl (by kernel_rfl) (Opens.string Try.underlying9) (OpensF.one rfl (by kernel_rfl) opens_bytes))
set_option maxRecDepth 100000 in
theorem opens_files : Opens Try.prog 46 kFiles goodFiles :=
  Opens.slice Try.underlying46 (by kernel_rfl) (B := 40) (by kernel_rfl) opens_file
theorem files_open {w : World} {l : Files} {A : Option Addr} {n c : Nat} (h : kFiles.K w l [.slice A n c]) : n = l.length ∧ n ≤ c ∧ Kd.C kFile w A n l := by
  obtain ⟨A', c', e, l', hr⟩ := h
  injection e with e _
  injection e with a b c
  subst a b c
  exact ⟨rfl, l', hr⟩
theorem at_file {w : World} {A : Option Addr} {n : Nat} {xs : Files} (h : Kd.C kFile w A n xs) (k : Nat) (hk : k < n) (x : ByteArray × List Int) (hx : xs[k]? = some x) : ∃ ad Ab cb, A = some ad ∧ w.cell? (ad.add (k * 2)) = some (.string x.1) ∧
    w.cell? ⟨(ad.add (k * 2)).block, (ad.add (k * 2)).off + 1, none⟩ = some (.slice Ab x.2.length cb) ∧ x.2.length ≤ cb ∧ Kd.C (Kd.int .u8) w Ab x.2.length x.2 := by
  obtain ⟨ad, c, e, _, hK, hc0⟩ := Kd.C_get h x (k : Int) (by omega) (by omega)
  rw [Int.toNat_natCast] at hK hc0
  rw [show xs.getD k x = x from by rw [List.getD_eq_getElem?_getD, hx]; rfl] at hK
  have hc : ∀ j u, c[j]? = some u → w.cell? (ad.add (k * 2 + j)) = some u := hc0
  obtain ⟨c1, c2, rfl, h1, ⟨Ab, cb, h2, l2, g2⟩⟩ := hK
  have h1' : c1 = [.string x.1] := h1
  subst h1' h2
  exact ⟨ad, Ab, cb, e, hc 0 _ rfl, by rw [← add_field _ _ 1 (by omega)]; exact hc 1 _ rfl, l2, g2⟩
/-- The files of a row of them, if these may be. -/
def ofL : Files → Files → Option Files
  | fs, [] => some fs
  | fs, x :: r => if (look fs x.1).isSome = true ∨ rightN x.1 = false ∨ 65536 < x.2.length then none else ofL (put fs x.1 x.2) r
def ofD (room : Int) (fs : Files) : D := ⟨max room 0, fs, fs, [], 0, -1, false⟩
def midD (room : Int) (fs : Files) : D := ⟨max room 0, fs, [], [], 0, -1, false⟩
/-- What Of answers: a disk, or none. -/
def OfEnd (w0 w : World) (F : Nat → Prop) (room : Int) (l : Files) (r : Ending) (w' : World) : Prop :=
  (r = .returned (.pointer none) ∧ (match ofL [] l with | some _ => 512 < l.length | none => True)) ∨ ∃ g fs, r = .returned (pt g) ∧ ofL [] l = some fs ∧ l.length ≤ 512 ∧ DiskF w0 w' F g (ofD room fs)
theorem ofL_take (x : ByteArray × List Int) : ∀ (l : Files) (fs gs : Files) (i : Nat), l[i]? = some x → ofL fs (l.take i) = some gs → ofL fs (l.take (i + 1)) = if (look gs x.1).isSome = true ∨ rightN x.1 = false ∨ 65536 < x.2.length then none else some (put gs x.1 x.2)
  | [], _, _, _, h, _ => by simp at h
  | y :: r, fs, gs, 0, h, h2 => by
    simp at h
    subst h
    simp [ofL] at h2
    subst h2
    simp [ofL]
  | y :: r, fs, gs, i + 1, h, h2 => by
    simp only [List.take_succ_cons, ofL] at h2 ⊢
    split at h2
    · cases h2
    · rename_i hn
      rw [if_neg hn]
      exact ofL_take x r _ gs i (by simpa using h) h2
theorem ofL_none : ∀ (l : Files) (fs : Files) (i : Nat), ofL fs (l.take i) = none → ofL fs l = none
  | [], fs, i, h => by simpa using h
  | y :: r, fs, 0, h => by simp [ofL] at h
  | y :: r, fs, i + 1, h => by
    simp only [List.take_succ_cons, ofL] at h ⊢
    split
    · rfl
    · rename_i hn
      rw [if_neg hn] at h
      exact ofL_none r _ i h
theorem ofL_length : ∀ (l : Files) (fs gs : Files), ofL fs l = some gs → gs.length ≤ fs.length + l.length
  | [], fs, gs, h => by simp [ofL] at h; subst h; simp
  | y :: r, fs, gs, h => by
    rw [ofL] at h
    split at h
    · cases h
    · have := ofL_length r _ gs h
      have h2 := length_put fs y.1 y.2
      rw [List.length_cons]
      omega
set_option maxRecDepth 100000 in
set_option maxHeartbeats 4000000 in
theorem of_any (room : Int) (w0 w : World) (hB : Below w0.heap.size w0 w) (F : Nat → Prop) (hF : ∀ k, F k → k < w.heap.size) (A : Option Addr) (n c : Nat) (l : Files) (hn : n = l.length) (hg : goodFiles l) (hC : Kd.C kFile w A n l) :
    Calls Try.prog 18 #[.int .i64 room, .slice A n c] w fun r w' => OfEnd w0 w F room l r w' ∧ Below w.heap.size w w' := by
  have HB := Lib.hid hB
  have HF := Lib.hid hF
  have HC := Lib.hid hC
  have HN := Lib.hid hn
  have HG := Lib.hid hg
  have hnb : n ≤ 140737488351232 := by have := hg.1; omega
  clear hB hF hC hn hg
  go_enter Try.func18, Try.ntmps18
  go_wp2_with fail
  refine (new_any room w).mono ?_
  rintro r w1 ⟨g, rfl, hD1, hB1⟩
  have HD1 := Lib.hid hD1
  have HB1 := Lib.hid hB1
  clear hD1 hB1
  go_wp2_with fail
  go_loopw [14] (fun v wr => ∃ (i : Nat) (fs : Files), v = .int .i64 (i : Int) ∧ i ≤ n ∧ ofL [] (l.take i) = some fs ∧ DiskAt wr w.heap.size g (fun k => w.heap.size ≤ k ∧ k < w1.heap.size) (midD room fs) ∧ Turns (fun k => w.heap.size ≤ k ∧ k < w1.heap.size) w1 wr) (fun v _ => n - (Lib.intOf v).toNat)
  case atStart => exact ⟨0, [], rfl, Nat.zero_le _, rfl, HD1.out, Turns.refl _ _⟩
  case round =>
    obtain ⟨i, fs, rfl, hi, hof, hD, hT⟩ := hrel
    by_cases hin : i < n
    · have d1 : (i : Int) < (n : Int) := by omega
      obtain ⟨x, hx⟩ : ∃ x, l[i]? = some x := ⟨_, List.getElem?_eq_getElem (by have := HN.out; omega)⟩
      have hBr : Below w.heap.size w wr := HB1.out.trans (hT.toBelow HB1.out.size (fun k hk => hk.1))
      obtain ⟨ad, Ab, cb, e, x0, x1, x2, x3⟩ := at_file (Kd.C_below HC.out hBr) i hin x hx
      subst e
      obtain ⟨bn, bs, vc, cs, Sc, hc, hp⟩ := hD.row
      obtain ⟨nm, hnm⟩ : ∃ s, s = x.1 := ⟨_, rfl⟩
      obtain ⟨nd, hnd⟩ : ∃ k, k = x.2.length := ⟨_, rfl⟩
      rw [← hnm] at x0
      rw [← hnd] at x1 x2 x3
      have hHR := Lib.hid (right_any nm)
      obtain ⟨rq, hrq⟩ : ∃ b, b = rightN nm := ⟨_, rfl⟩
      rw [← hrq] at hHR
      have gx := HG.out.2 x (List.mem_of_getElem? hx)
      have gnm : nm.size ≤ maxLen := by rw [hnm]; have := gx.1; unfold maxLen; omega
      have gnd : nd ≤ 140737488351232 := by rw [hnd]; have := gx.2.1; omega
      have hstep := ofL_take x l [] fs i hx hof
      rw [← hnm, ← hrq, ← hnd] at hstep
      obtain ⟨vs, hown, h2⟩ := id hp.now
      obtain ⟨hq, Ao, co, hgo, _, _⟩ := look_row h2 nm
      obtain ⟨q, hq'⟩ : ∃ q, q = (look fs nm).isSome := ⟨_, rfl⟩
      obtain ⟨lo, hlo⟩ : ∃ k, k = ((look fs nm).getD []).length := ⟨_, rfl⟩
      obtain ⟨w2, hw2⟩ : ∃ w2, w2 = wr.alloc (.cells #[.string nm, .slice Ab nd cb] tFile) := ⟨_, rfl⟩
      have hB2 : Below wr.heap.size wr w2 := by rw [hw2]; exact (Below.refl _ _).alloc (Nat.le_refl _) _
      have hb2 : w2.heap[wr.heap.size]? = some (.cells #[.string nm, .slice Ab nd cb] tFile (0, 0)) := by rw [hw2]; exact heap_alloc_new wr _
      have y0 : w2.cell? ⟨wr.heap.size, 0, none⟩ = some (.string nm) := by simpa using blk_cell hb2 0
      have y1 : w2.cell? ⟨wr.heap.size, 1, none⟩ = some (.slice Ab nd cb) := by simpa using blk_cell hb2 1
      have hc2 := (hB2.block g (blk_lt hc)).trans hc
      have yg : w2.cell? ⟨g, 1, none⟩ = some (.map (some bn)) := (cells7 hc2).2.1
      have hown2 : OwnM w2 bn vs := own_move hown (hB2.block bn (OwnM.lt hown))
      have hlk : (Instr.lookup 50 (.map (some bn)) (.string nm) true).run Try.prog w2.drew = .ok (.tuple #[.slice Ao lo co, .bool q]) w2.drew := by
        have h3 := OwnM.look_ok (w := w2.drew) (own_move (w' := w2.drew) hown2 rfl) gnm
        have hgo' : (look vs nm).getD (.slice none 0 0) = .slice Ao ((look fs nm).getD []).length co := hgo
        have hq2 : (look vs nm).isSome = (look fs nm).isSome := hq
        rw [hgo', hq2, ← hq', ← hlo] at h3
        exact h3
      rw [← hq'] at hstep
      have hgl2 := blk_lt hc2
      have hxl : wr.heap.size < w2.heap.size := blk_lt hb2
      have HDr := Lib.hid (And.intro hD (And.intro hT hBr))
      have HH2 := Lib.hid (And.intro hB2 hb2)
      have HPr := Lib.hid hp
      have HCr := Lib.hid hc
      have HVS := Lib.hid (And.intro hown2 h2)
      have HW2 := Lib.hid hw2
      have HST := Lib.hid hstep
      have HX := Lib.hid (And.intro hx (And.intro hnm (And.intro hnd hof)))
      have HCx := Lib.hid x3
      have HYS := Lib.hid (And.intro y0 (And.intro y1 yg))
      clear hD hT hBr hp hc hown h2 hq hgo hq' hlo hB2 hb2 hc2 hown2 hstep hx hnm hnd hof x3 hrq gx
      go_upto_region 5 with (fail)
      rw [← HW2.out]
      refine start_ (S := fun w' => w'.cell? ⟨wr.heap.size, 0, none⟩ = some (.string nm) ∧ w'.cell? ⟨g, 1, none⟩ = some (.map (some bn)) ∧ (Instr.lookup 50 (.map (some bn)) (.string nm) true).run Try.prog w' = .ok (.tuple #[.slice Ao lo co, .bool q]) w') (ds := [10, 11]) (n := 12) #[false, false, false, false, false, false, false, false, false, false, false, false] rfl rfl rfl ?hS0 (fun hHeld => ?hrun)
      case hS0 => exact ⟨y0, yg, hlk⟩
      case hrun =>
        refine pure_ (i := 0) (N := some 19) (v := ?_) (a' := ?_) #[true, false, false, false, false, false, false, false, false, false, false, false] rfl rfl (by kernel_rfl) (fun _ _ _ h => h) (Or.inl ⟨by rfl, ?_⟩) ?_ ?_
        rotate_left
        · intro w'
          go_simp
          first | done | with_reducible rfl
        rotate_left
        · simp only [Act.put, List.setIfInBounds_toArray, List.set_cons_zero, List.set_cons_succ, i64_w, i32_w]
          rfl
        refine pure_ (i := 1) (N := some 20) (v := ?_) (a' := ?_) #[true, true, false, false, false, false, false, false, false, false, false, false] rfl rfl (by kernel_rfl) (fun _ _ _ h => h) (Or.inl ⟨by rfl, ?_⟩) ?_ ?_
        rotate_left
        · intro w'
          go_simp
          first | done | with_reducible rfl
        rotate_left
        · simp only [Act.put, List.setIfInBounds_toArray, List.set_cons_zero, List.set_cons_succ, i64_w, i32_w]
          rfl
        refine pure_ (i := 2) (N := some 21) (v := ?_) (a' := ?_) #[true, true, true, false, false, false, false, false, false, false, false, false] rfl rfl (by kernel_rfl) (fun _ _ _ h => h) (Or.inl ⟨by rfl, ?_⟩) ?_ ?_
        rotate_left
        · intro w'
          go_simp
          first | done | with_reducible rfl
        rotate_left
        · simp only [Act.put, List.setIfInBounds_toArray, List.set_cons_zero, List.set_cons_succ, i64_w, i32_w]
          rfl
        refine take_ (i := 3) (N := some 22) (v := ?_) (a' := ?_) #[true, true, true, true, false, false, false, false, false, false, false, false] rfl rfl (by kernel_rfl) (fun _ _ _ h => h) (Or.inl ⟨by rfl, ?_⟩) hHeld ?_ ?_
        rotate_left
        · rintro w' ⟨ha, hcc, hl⟩
          go_simp
          first | done | with_reducible rfl
        rotate_left
        · simp only [Act.put, List.setIfInBounds_toArray, List.set_cons_zero, List.set_cons_succ, i64_w, i32_w]
          rfl
        refine pure_ (i := 4) (N := some 23) (v := ?_) (a' := ?_) #[true, true, true, true, true, false, false, false, false, false, false, false] rfl rfl (by kernel_rfl) (fun _ _ _ h => h) (Or.inl ⟨by rfl, ?_⟩) ?_ ?_
        rotate_left
        · intro w'
          go_simp
          first | done | with_reducible rfl
        rotate_left
        · simp only [Act.put, List.setIfInBounds_toArray, List.set_cons_zero, List.set_cons_succ, i64_w, i32_w]
          rfl
        refine take_ (i := 5) (N := some 24) (v := ?_) (a' := ?_) #[true, true, true, true, true, true, false, false, false, false, false, false] rfl rfl (by kernel_rfl) (fun _ _ _ h => h) (Or.inl ⟨by rfl, ?_⟩) hHeld ?_ ?_
        rotate_left
        · rintro w' ⟨ha, hcc, hl⟩
          go_simp
          first | done | with_reducible rfl
        rotate_left
        · simp only [Act.put, List.setIfInBounds_toArray, List.set_cons_zero, List.set_cons_succ, i64_w, i32_w]
          rfl
        refine take_ (i := 6) (N := some 25) (v := ?_) (a' := ?_) #[true, true, true, true, true, true, true, false, false, false, false, false] rfl rfl (by kernel_rfl) (fun _ _ _ h => h) (Or.inl ⟨by rfl, ?_⟩) hHeld ?_ ?_
        rotate_left
        · rintro w' ⟨ha, hcc, hl⟩
          go_simp
          first | done | with_reducible rfl
        rotate_left
        · simp only [Act.put, List.setIfInBounds_toArray, List.set_cons_zero, List.set_cons_succ, i64_w, i32_w]
          rfl
        refine pure_ (i := 7) (N := some 18) (v := ?_) (a' := ?_) #[true, true, true, true, true, true, true, true, false, false, false, false] rfl rfl (by kernel_rfl) (fun _ _ _ h => h) (Or.inl ⟨by rfl, ?_⟩) ?_ ?_
        rotate_left
        · intro w'
          go_simp
          first | done | with_reducible rfl
        rotate_left
        · simp only [Act.put, List.setIfInBounds_toArray, List.set_cons_zero, List.set_cons_succ, i64_w, i32_w]
          rfl
        refine pure_ (i := 8) (N := some 26) (v := ?_) (a' := ?_) #[true, true, true, true, true, true, true, true, true, false, false, false] rfl rfl (by kernel_rfl) (fun _ _ _ h => h) (Or.inl ⟨by rfl, ?_⟩) ?_ ?_
        rotate_left
        · intro w'
          go_simp
          first | done | with_reducible rfl
        rotate_left
        · simp only [Act.put, List.setIfInBounds_toArray, List.set_cons_zero, List.set_cons_succ, i64_w, i32_w]
          rfl
        refine pure_ (i := 9) (N := some 27) (v := ?_) (a' := ?_) #[true, true, true, true, true, true, true, true, true, true, false, false] rfl rfl (by kernel_rfl) (fun _ _ _ h => h) (Or.inl ⟨by rfl, ?_⟩) ?_ ?_
        rotate_left
        · intro w'
          go_simp
          first | done | with_reducible rfl
        rotate_left
        · simp only [Act.put, List.setIfInBounds_toArray, List.set_cons_zero, List.set_cons_succ, i64_w, i32_w]
          rfl
        refine tail_list 10 (t := [10, 11]) (fuel := 0) rfl rfl rfl (by kernel_rfl) (by decide) ?_
        clear hHeld hlk x0 x1
        cases q with
        | true =>
          have hno := HST.out.trans (if_pos (.inl rfl))
          have HNO := Lib.hid (ofL_none l [] (i + 1) hno)
          clear hno
          go_wp2_with fail
          go_ret
          refine ⟨.inl ⟨rfl, ?_⟩, ?_⟩
          · rw [HNO.out]; trivial
          · try rw [← HW2.out]
            exact ((HDr.out.2.2.trans (HH2.out.1.mono HDr.out.2.2.size))).drew
        | false =>
          go_wp2_with fail
          try rw [← HW2.out]
          refine (hHR.out w2.drew).mono ?_
          rintro r w3 ⟨rfl, hB3⟩
          have hB23 : Below w2.heap.size w2 w3 := ((Below.refl _ _).drew).trans hB3
          have z0 := (hB23.cell (p := ⟨wr.heap.size, 0, none⟩) hxl).trans HYS.out.1
          have z1 := (hB23.cell (p := ⟨wr.heap.size, 1, none⟩) hxl).trans HYS.out.2.1
          have zg := (hB23.cell (p := ⟨g, 1, none⟩) hgl2).trans HYS.out.2.2
          have hxl3 := Nat.lt_of_lt_of_le hxl hB23.size
          have hgl3 := Nat.lt_of_lt_of_le hgl2 hB23.size
          have HB23 := Lib.hid hB23
          clear hB3 hB23 y0 y1 yg
          cases rq with
          | false =>
            have hno := HST.out.trans (if_pos (.inr (.inl rfl)))
            have HNO := Lib.hid (ofL_none l [] (i + 1) hno)
            clear hno
            go_wp2_with fail
            go_ret
            refine ⟨.inl ⟨rfl, ?_⟩, ?_⟩
            · rw [HNO.out]; trivial
            · exact (HDr.out.2.2.trans (HH2.out.1.mono HDr.out.2.2.size)).trans (HB23.out.mono (by have := HDr.out.2.2.size; have := HH2.out.1.size; omega))
          | true =>
            by_cases hbig : 65536 < nd
            · have hbI : (65536 : Int) < (nd : Int) := by omega
              have hno := HST.out.trans (if_pos (.inr (.inr hbig)))
              have HNO := Lib.hid (ofL_none l [] (i + 1) hno)
              clear hno
              go_wp2_with fail
              go_ret
              refine ⟨.inl ⟨rfl, ?_⟩, ?_⟩
              · rw [HNO.out]; trivial
              · exact (HDr.out.2.2.trans (HH2.out.1.mono HDr.out.2.2.size)).trans (HB23.out.mono (by have := HDr.out.2.2.size; have := HH2.out.1.size; omega))
            · have hbI : ¬ (65536 : Int) < (nd : Int) := by omega
              have hyes := HST.out.trans (if_neg (by
                rintro (h | h | h)
                · cases h
                · cases h
                · exact hbig h))
              have HYES := Lib.hid hyes
              clear hyes hbig
              go_upto_region 8 with (fail)
              refine start_ (S := fun w' => w'.cell? ⟨wr.heap.size, 0, none⟩ = some (.string nm) ∧ w'.cell? ⟨wr.heap.size, 1, none⟩ = some (.slice Ab nd cb) ∧ w'.cell? ⟨g, 1, none⟩ = some (.map (some bn))) (ds := [9]) (n := 10) #[false, false, false, false, false, false, false, false, false, false] rfl rfl rfl ?hS0 (fun hHeld => ?hrun)
              case hS0 => exact ⟨z0, z1, zg⟩
              case hrun =>
                refine pure_ (i := 0) (N := some 41) (v := ?_) (a' := ?_) #[true, false, false, false, false, false, false, false, false, false] rfl rfl (by kernel_rfl) (fun _ _ _ h => h) (Or.inl ⟨by rfl, ?_⟩) ?_ ?_
                rotate_left
                · intro w'
                  go_simp
                  first | done | with_reducible rfl
                rotate_left
                · simp only [Act.put, List.setIfInBounds_toArray, List.set_cons_zero, List.set_cons_succ, i64_w, i32_w]
                  rfl
                refine pure_ (i := 1) (N := some 42) (v := ?_) (a' := ?_) #[true, true, false, false, false, false, false, false, false, false] rfl rfl (by kernel_rfl) (fun _ _ _ h => h) (Or.inl ⟨by rfl, ?_⟩) ?_ ?_
                rotate_left
                · intro w'
                  go_simp
                  first | done | with_reducible rfl
                rotate_left
                · simp only [Act.put, List.setIfInBounds_toArray, List.set_cons_zero, List.set_cons_succ, i64_w, i32_w]
                  rfl
                refine pure_ (i := 2) (N := some 43) (v := ?_) (a' := ?_) #[true, true, true, false, false, false, false, false, false, false] rfl rfl (by kernel_rfl) (fun _ _ _ h => h) (Or.inl ⟨by rfl, ?_⟩) ?_ ?_
                rotate_left
                · intro w'
                  go_simp
                  first | done | with_reducible rfl
                rotate_left
                · simp only [Act.put, List.setIfInBounds_toArray, List.set_cons_zero, List.set_cons_succ, i64_w, i32_w]
                  rfl
                refine take_ (i := 3) (N := some 44) (v := ?_) (a' := ?_) #[true, true, true, true, false, false, false, false, false, false] rfl rfl (by kernel_rfl) (fun _ _ _ h => h) (Or.inl ⟨by rfl, ?_⟩) hHeld ?_ ?_
                rotate_left
                · rintro w' ⟨ha, hb, hcc⟩
                  go_simp
                  first | done | with_reducible rfl
                rotate_left
                · simp only [Act.put, List.setIfInBounds_toArray, List.set_cons_zero, List.set_cons_succ, i64_w, i32_w]
                  rfl
                refine pure_ (i := 4) (N := some 45) (v := ?_) (a' := ?_) #[true, true, true, true, true, false, false, false, false, false] rfl rfl (by kernel_rfl) (fun _ _ _ h => h) (Or.inl ⟨by rfl, ?_⟩) ?_ ?_
                rotate_left
                · intro w'
                  go_simp
                  first | done | with_reducible rfl
                rotate_left
                · simp only [Act.put, List.setIfInBounds_toArray, List.set_cons_zero, List.set_cons_succ, i64_w, i32_w]
                  rfl
                refine take_ (i := 5) (N := some 46) (v := ?_) (a' := ?_) #[true, true, true, true, true, true, false, false, false, false] rfl rfl (by kernel_rfl) (fun _ _ _ h => h) (Or.inl ⟨by rfl, ?_⟩) hHeld ?_ ?_
                rotate_left
                · rintro w' ⟨ha, hb, hcc⟩
                  go_simp
                  first | done | with_reducible rfl
                rotate_left
                · simp only [Act.put, List.setIfInBounds_toArray, List.set_cons_zero, List.set_cons_succ, i64_w, i32_w]
                  rfl
                refine pure_ (i := 6) (N := some 47) (v := ?_) (a' := ?_) #[true, true, true, true, true, true, true, false, false, false] rfl rfl (by kernel_rfl) (fun _ _ _ h => h) (Or.inl ⟨by rfl, ?_⟩) ?_ ?_
                rotate_left
                · intro w'
                  go_simp
                  first | done | with_reducible rfl
                rotate_left
                · simp only [Act.put, List.setIfInBounds_toArray, List.set_cons_zero, List.set_cons_succ, i64_w, i32_w]
                  rfl
                refine take_ (i := 7) (N := some 48) (v := ?_) (a' := ?_) #[true, true, true, true, true, true, true, true, false, false] rfl rfl (by kernel_rfl) (fun _ _ _ h => h) (Or.inl ⟨by rfl, ?_⟩) hHeld ?_ ?_
                rotate_left
                · rintro w' ⟨ha, hb, hcc⟩
                  go_simp
                  first | done | with_reducible rfl
                rotate_left
                · simp only [Act.put, List.setIfInBounds_toArray, List.set_cons_zero, List.set_cons_succ, i64_w, i32_w]
                  rfl
                refine one_ (i := 8) (N := some 49) #[true, true, true, true, true, true, true, true, true, false] rfl rfl (by kernel_rfl) (by decide) (fun K hK => ?_)
                refine goes_ Try.func28 (by kernel_rfl) rfl #[.slice Ab nd cb] (by rfl) rfl rfl (by (try simp only [List.map_toArray, List.map_cons, List.map_nil]); first | done | rfl) ?_
                have hBr3 : Below wr.heap.size wr w3 := HH2.out.1.trans (HB23.out.mono HH2.out.1.size)
                have hcl := clone_any Ab cb x.2 w3.drew (Kd.C_drew (by have h := Kd.C_below HCx.out hBr3; rw [HX.out.2.2.1] at h; exact h)) (by rw [← HX.out.2.2.1]; exact x2) (by rw [← HX.out.2.2.1]; omega)
                rw [← HX.out.2.2.1] at hcl
                refine hcl.mono ?_
                rintro r w9 ⟨v, rfl, hR, hB⟩
                have HR9 := Lib.hid hR
                have hB39 : Below w3.heap.size w3 w9 := ((Below.refl _ _).drew).trans hB
                have HB39 := Lib.hid hB39
                obtain ⟨A9, c9, e9⟩ := Kd.R_slice hR
                rw [← HX.out.2.2.1] at e9
                subst e9
                clear hR hB hcl hHeld
                refine ⟨_, rfl, ?_⟩
                refine hK.out _ _ ⟨(hB39.cell (p := ⟨wr.heap.size, 0, none⟩) hxl3).trans z0, (hB39.cell (p := ⟨wr.heap.size, 1, none⟩) hxl3).trans z1, (hB39.cell (p := ⟨g, 1, none⟩) hgl3).trans zg⟩ (fun hHeld1 => ?_)
                clear hK K
                refine norm_ (a' := ?_) ?_ ?_
                rotate_left
                · show Act.put _ (some 49) _ = _
                  simp only [Act.put, List.setIfInBounds_toArray, List.set_cons_zero, List.set_cons_succ, i64_w, i32_w]
                  rfl
                refine tail_list 9 (t := [9]) (fuel := 0) rfl rfl rfl (by kernel_rfl) (by decide) ?_
                have hB29 : Below w2.heap.size w2 w9 := HB23.out.trans (HB39.out.mono HB23.out.size)
                have hBr9 : Below wr.heap.size wr w9 := HH2.out.1.trans (hB29.mono HH2.out.1.size)
                have hown9 : OwnM w9 bn vs := own_move HVS.out.1 (hB29.block bn (OwnM.lt HVS.out.1))
                have hvl : vs.length < maxLen := by
                  have h1 := HVS.out.2.length
                  have h2 := ofL_length (l.take i) [] fs HX.out.2.2.2
                  have h3 : (l.take i).length ≤ l.length := by rw [List.length_take]; omega
                  have h4 := HN.out
                  have h5 : ([] : Files).length = 0 := rfl
                  have h6 : (midD room fs).now.length = fs.length := rfl
                  unfold maxLen
                  omega
                have HBr9 := Lib.hid hBr9
                clear hB29 hBr9
                refine wp_update w9 rfl _ _ _ rfl hown9 nm gnm hvl A9 nd c9 rfl rfl rfl ?_
                intro w10 ho10 ht10
                go_wp2_with fail
                have hp9 := HPr.out.below HBr9.out
                have hSlt : ∀ k, (w.heap.size ≤ k ∧ k < w1.heap.size) → k < wr.heap.size := fun k hk => (HDr.out.1.lt k hk).1
                have htx : TextAt w9 (fun k => w.heap.size ≤ k ∧ k < w1.heap.size) (.slice A9 nd c9) x.2 := TextAt.made HR9.out (fun k hk => by
                  have := hSlt k hk
                  have h1 := HH2.out.1.size
                  have h2 := HB23.out.size
                  show k < w3.heap.size
                  omega)
                have h29 : All2 (FileRow w9 (fun k => w.heap.size ≤ k ∧ k < w1.heap.size)) vs fs := HVS.out.2.imp (fun _ _ h => h.step (Turns.of_below HBr9.out _) (fun _ h => .inl h))
                have hm10 : MapAt w10 (fun k => w.heap.size ≤ k ∧ k < w1.heap.size) bn (put fs nm x.2) := hp9.now.write hp9.sn h29 htx ho10 ht10
                have hp10 := hp9.mapped ht10 hm10
                have hc9 := (HBr9.out.block g (blk_lt HCr.out)).trans HCr.out
                have hc10 : DiskCells w10 g (midD room (put fs nm x.2)) bn bs vc := (ht10.grown.block g (blk_lt hc9) (fun e => hp10.ne.2.1 (by cases e; rfl))).trans hc9
                have hT10 : Turns (fun k => w.heap.size ≤ k ∧ k < w1.heap.size) w1 w10 := (HDr.out.2.1.below HBr9.out).turned ht10 (.inl hp10.sn)
                have hz : wr.heap.size ≤ w10.heap.size := Nat.le_trans HBr9.out.size ht10.grown.size
                have hD10 : DiskAt w10 w.heap.size g (fun k => w.heap.size ≤ k ∧ k < w1.heap.size) (midD room (put fs nm x.2)) := ⟨⟨bn, bs, vc, cs, Sc, hc10, hp10⟩, fun k hk => ⟨by have := hSlt k hk; omega, hk.1⟩, HDr.out.1.own⟩
                have HEND := Lib.hid (And.intro hD10 hT10)
                clear hD10 hT10 hp10 hc10 hm10 hp9 hc9 h29 htx ho10 ht10 hown9
                go_roundw
                case rel => exact ⟨i + 1, put fs nm x.2, by simp, by omega, HYES.out, HEND.out.1, HEND.out.2⟩
                case measure => simp [Lib.intOf]; omega
    · have hie : i = n := by omega
      have d1 : ¬ (i : Int) < (n : Int) := by omega
      have hall : ofL [] l = some fs := by
        have h := hof
        rw [hie, HN.out, List.take_length] at h
        exact h
      have HALL := Lib.hid hall
      have HDr := Lib.hid (And.intro hD hT)
      obtain ⟨bn, bs, vc, cs, Sc, hc, hp⟩ := hD.row
      obtain ⟨vs, hown, h2⟩ := id hp.now
      obtain ⟨_, c1, c2, _, _, _, _⟩ := cells7 hc
      have q2 := blk_frozen hc 2
      have hgl := blk_lt hc
      have HCr := Lib.hid hc
      have HPr := Lib.hid hp
      have HVS := Lib.hid (And.intro hown h2)
      have hBr : Below w.heap.size w wr := HB1.out.trans (hT.toBelow HB1.out.size (fun k hk => hk.1))
      have HBr := Lib.hid hBr
      clear hD hT hc hp hown h2 hall hof hBr hi
      by_cases h512 : 512 < n
      · have h5I : (512 : Int) < (n : Int) := by omega
        go_wp2_with fail
        go_ret
        refine ⟨.inl ⟨rfl, ?_⟩, HBr.out⟩
        rw [HALL.out]
        show 512 < l.length
        rw [← HN.out]
        exact h512
      · have h5I : ¬ (512 : Int) < (n : Int) := by omega
        go_wp2_with fail
        refine (clone_map wr bn vs HVS.out.1).mono ?_
        rintro r w3 ⟨rfl, ho3, hB3⟩
        have hc3 := (hB3.block g hgl).trans HCr.out
        have HC3 := Lib.hid hc3
        obtain ⟨_, _, c2', _, _, _, _⟩ := cells7 hc3
        have q2' := blk_frozen hc3 2
        have hg3 := blk_lt hc3
        have HO3 := Lib.hid ho3
        have HB3 := Lib.hid hB3
        clear ho3 hB3 hc3 c1 c2 q2
        go_wp2_with fail
        go_ret
        show OfEnd w0 w F room l (.returned (pt g)) _ ∧ _
        obtain ⟨w4, hw4⟩ : ∃ w4, w4 = w3.setCell ⟨g, 2, none⟩ (.map (some wr.heap.size)) := ⟨_, rfl⟩
        rw [← hw4]
        have hp := HPr.out
        have hD := HDr.out.1
        have hz := HB3.out.size
        have h1r := HDr.out.2.size
        have hlt3 := OwnM.lt HO3.out
        have hzz : w4.heap.size = w3.heap.size := by rw [hw4]; simp [World.setCell]
        have kT : Turns (fun k => k = g) w3 w4 := by
          rw [hw4]
          exact (Turns.refl (fun k => k = g) w3).set (p := ⟨g, 2, none⟩) (.inl rfl) _
        have kT2 : Turns (fun k => k = g) wr w4 := (Turns.of_below HB3.out (fun k => k = g)).trans kT (fun _ h => .inl h)
        have hgS : ∀ i, i = g → (w.heap.size ≤ i ∧ i < w1.heap.size) := fun i e => by subst e; exact hD.own
        have hsub : ∀ i, ((w.heap.size ≤ i ∧ i < w1.heap.size) ∨ i = wr.heap.size) → (w.heap.size ≤ i ∧ i < w1.heap.size) ∨ wr.heap.size ≤ i := fun i hi => by
          rcases hi with h | h
          · exact .inl h
          · exact .inr (by omega)
        have hww : Below w.heap.size w w4 := by
          have h3 : Below w.heap.size w w3 := HBr.out.trans (HB3.out.mono HBr.out.size)
          exact ((Turns.of_below h3 (fun k => k = g)).trans kT (fun _ h => .inl h)).toBelow (Nat.le_refl _) (fun i e => (hgS i e).1)
        refine ⟨.inr ⟨g, fs, rfl, HALL.out, by rw [← HN.out]; omega, ⟨HB.out.trans (hww.mono HB.out.size), fun k => (w.heap.size ≤ k ∧ k < w1.heap.size) ∨ k = wr.heap.size, ⟨⟨bn, wr.heap.size, vc, cs, Sc, ?_, ⟨?_, ?_, ?_, ?_, ?_, ?_, ?_, ?_⟩⟩, ?_, ?_⟩, ?_⟩⟩, hww⟩
        · have hc3 := HC3.out
          unfold DiskCells
          rw [hw4, blk_set hc3 2]
          rfl
        · exact hp.now.step kT2 (fun e => hp.ne.2.1 e.symm) hgS hsub
        · refine (MapAt.cloned (S' := fun k => (w.heap.size ≤ k ∧ k < w1.heap.size) ∨ k = wr.heap.size) HVS.out.2 HB3.out HO3.out hsub).step kT (fun e => ?_) (fun i e => .inl (hgS i e)) (fun _ h => .inl h)
          omega
        · exact Kd.R_lower (Kd.R_step hp.row (fun i hi hl => kT2.block i hl (fun e => (hp.sc i hi).2.1 e))) HB.out.size
        · exact hp.fns.imp (fun _ _ h => h.step (kT2.mono (fun i e => .inl (hgS i e))) hsub)
        · exact fun k hk => ⟨.inl (hp.sc k hk).1, (hp.sc k hk).2.1, (hp.sc k hk).2.2.1, fun e => by have := (hD.lt k (hp.sc k hk).1).1; omega⟩
        · exact .inl hp.sn
        · exact .inr rfl
        · have := hp.now.lt
          exact ⟨by omega, hp.ne.2.1, by omega⟩
        · intro j hj
          rw [hzz]
          have hw0 := HB.out.size
          have hw1 := HB1.out.size
          rcases (show (w.heap.size ≤ j ∧ j < w1.heap.size) ∨ j = wr.heap.size from hj) with h | h
          · have h2 := (hD.lt j h).1
            have h3 := h.1
            exact ⟨by omega, by omega⟩
          · exact ⟨by omega, by omega⟩
        · exact .inl hD.own
        · intro k hk
          have := HF.out k hk
          have hw1 := HB1.out.size
          refine ⟨by omega, fun hS => ?_⟩
          rcases (show (w.heap.size ≤ k ∧ k < w1.heap.size) ∨ k = wr.heap.size from hS) with h | h
          · omega
          · omega
end Go.Proofs.Ytnjdighpdcabcaa
/- Files: all files, by rising names. -/
set_option linter.unusedVariables false
set_option linter.unusedSimpArgs false
namespace Go.Proofs.Ytnjdighpdcabcaa
open Go.RowKit Go.Proofs.YtnjdighpdcabcaaW.PrintWords Go.Proofs.YtnjdighpdcabcaaW.PrintLast Go.Proofs.YtnjdighpdcabcaaW.PrintMore
open Go.Shelf Go.Sort

theorem bytesBefore_lt : ∀ (a b : List UInt8), bytesBefore a b = true → a < b
  | [], [], h => by cases h
  | [], _ :: _, _ => List.nil_lt_cons _ _
  | _ :: _, [], h => by cases h
  | x :: a, y :: b, h => by
    have h' : (x < y || (x == y && bytesBefore a b)) = true := by simpa [bytesBefore] using h
    rw [List.cons_lt_cons_iff]
    rcases Bool.or_eq_true_iff.1 h' with h1 | h1
    · exact .inl (of_decide_eq_true h1)
    · obtain ⟨h2, h3⟩ := Bool.and_eq_true_iff.1 h1
      exact .inr ⟨by simpa using h2, bytesBefore_lt a b h3⟩
def namesL (vs : List (ByteArray × Value)) : List (List UInt8) := vs.map fun x => x.1.data.toList
theorem names_rise {w : World} {b : Nat} {vs : List (ByteArray × Value)} (h : OwnM w b vs) : (namesL vs).Pairwise (fun x y => bytesBefore x y = true) := by
  obtain ⟨es, e, hp, _⟩ := World.ownsMap.canon h keyS
  have e' : vs.map entW = es := DataW.map.inj e
  rw [← e', List.pairwise_map] at hp
  unfold namesL
  rw [List.pairwise_map]
  exact hp.imp (fun h => h)
theorem names_keys (vs : List (ByteArray × Value)) : strKeys (mapW vs) = namesL vs := by
  show (vs.map entW).map _ = _
  unfold namesL
  rw [List.map_map]
  rfl
theorem names_sorted {w : World} {b : Nat} {vs : List (ByteArray × Value)} (h : OwnM w b vs) {ss : List (List UInt8)} (hp : ss.Perm (strKeys (mapW vs))) : ss.mergeSort (fun x y => decide (x ≤ y)) = namesL vs := by
  rw [names_keys] at hp
  rw [mergeSort_of_perm hp]
  refine List.mergeSort_of_pairwise ((names_rise h).imp (fun {x y} hxy => ?_))
  exact decide_eq_true (List.le_of_lt (bytesBefore_lt _ _ hxy))
theorem enc_name (s : ByteArray) : encStr s.data.toList = .string s := by
  show Value.string ⟨s.data.toList.toArray⟩ = _
  rw [Array.toArray_toList]
theorem sortsM (m : Nat) : AnyZ.SortsIn Try.prog Try.sortedM_ren Fence.wide m :=
  ⟨fun blk off cap ss W hH hblk hsz => callsIn_wide.2 (AnyM.slices_Sort_string Try.sortM blk off cap ss W hH hblk hsz),
   fun p cap W => callsIn_wide.2 (AnyM.slices_Sort_string_none Try.sortM p cap W)⟩
theorem keys_any (b : Nat) (w : World) : Calls Try.prog 40 #[.map (some b)] w fun e w' => e = .returned (.func (.func 59) #[] #[.pointer (some ⟨w.heap.size, 0, none⟩)]) ∧ w' = w.alloc (.cells #[.map (some b)] 50) :=
  (callsIn_wide (n := 5)).1 (AnyZ.keys_in Try.keysM Fence.wide 5 trivial rfl (some b) w)
theorem sorted_any (w : World) (b : Nat) (vs : List (ByteArray × Value)) (h : OwnM w b vs) (hn : vs.length ≤ 1000000000) :
    Calls Try.prog 39 #[.func (.func 59) #[] #[.pointer (some ⟨w.heap.size, 0, none⟩)]] (w.alloc (.cells #[.map (some b)] 50)) fun e w' =>
      ∃ v, e = .returned v ∧ Kd.R Kd.string 9 w' w.heap.size (fun _ => True) v (vs.map fun x => x.1) ∧ Below w.heap.size w w' := by
  have hbl := OwnM.lt h
  have hseq : SeqGives Fence.wide 2 Try.prog 59 #[.pointer (some ⟨w.heap.size, 0, none⟩)] encStr (fun ss => ss.Perm (strKeys (mapW vs))) (Maps.size (mapW vs)) (w.alloc (.cells #[.map (some b)] 50)) :=
    AnyZ.keys_gives (ρ := Try.keysM_ren) { Try.keysM with } Fence.wide _ trivial rfl (by omega) w.heap.size b vs.length (mapW vs) (R := rdSl) _ (by simp) (by simp) (by
      obtain ⟨es, clock, hb, Ft, hs, hD⟩ := h
      exact ⟨es, clock, (Below.heap_alloc _ _ b hbl).trans hb, Ft, hs, hD⟩)
  have hz : Maps.size (mapW vs) = vs.length := by simp [Maps.size]
  have cS := AnyZ.sorted_in Try.sortedM Fence.wide 5 trivial trivial trivial trivial rfl (by omega) (sortsM _) (enters_of Try.func58 (by kernel_rfl) rfl) 59 #[.pointer (some ⟨w.heap.size, 0, none⟩)] trivial
    (enters_of Try.func59 (by kernel_rfl) rfl) _ _ (by rw [hz]; unfold maxLen; omega) (by rw [hz]; omega) _ hseq
  change CallsIn _ _ Try.prog 39 _ _ _ at cS
  refine ((callsIn_wide (n := 5)).1 cS).mono ?_
  rintro e w' ⟨v, ss, rfl, hS, hrow, _, hB⟩
  refine ⟨v, rfl, ?_, ((Below.refl _ w).alloc (Nat.le_refl _) _).trans (hB.mono (by simp))⟩
  have hl : ss.length = (vs.map fun x => x.1).length := by rw [hS.length_eq, names_keys]; simp [namesL]
  rw [names_sorted h hS] at hrow
  have he : (namesL vs).map encStr = encs Value.string (vs.map fun x => x.1) := by
    unfold namesL encs
    rw [List.map_map, List.map_map]
    refine List.map_congr_left (fun x _ => ?_)
    exact enc_name x.1
  rw [he, hl] at hrow
  exact Kd.R_lower (Kd.R_of_own hrow (fun _ _ => trivial)) (by simp)
end Go.Proofs.Ytnjdighpdcabcaa
/- Files' walk; Same of alike files. -/
set_option linter.unusedVariables false
set_option linter.unusedSimpArgs false
namespace Go.Proofs.Ytnjdighpdcabcaa
open Go.RowKit Go.Proofs.YtnjdighpdcabcaaW.PrintWords Go.Proofs.YtnjdighpdcabcaaW.PrintLast Go.Proofs.YtnjdighpdcabcaaW.PrintMore

theorem infoFile : (Try.prog.info? 45).map (fun i => (i.zero, i.size, i.bytes)) = some (some (.agg #[.string ByteArray.empty, .slice none 0 0]), 2, 40) := by kernel_rfl
theorem kFile_mkM {w : World} {base : Nat} {ok : Nat → Prop} {s : ByteArray} {v : Value} {t : List Int} (h : Kd.R (Kd.int .u8) 5 w base ok v t) : kFile.M w base ok (s, t) [.string s, v] := ⟨[.string s], [v], rfl, rfl, ⟨v, rfl, h⟩⟩
theorem at_name {w : World} {A : Option Addr} {n : Nat} {xs : List ByteArray} (h : Kd.string.C w A n xs) (i : Nat) (s : ByteArray) (hs : xs[i]? = some s) : ∃ ad, A = some ad ∧ w.cell? (ad.add i) = some (.string s) := by
  have hi : i < n := by rw [← h.1]; exact (List.getElem?_eq_some_iff.1 hs).1
  obtain ⟨ad, c, e, _, hK, hc⟩ := Kd.C_get h s (i : Int) (by omega) (by omega)
  refine ⟨ad, e, ?_⟩
  have hg : xs.getD (i : Int).toNat s = s := by simp [List.getD_eq_getElem?_getD, hs]
  rw [hg] at hK
  have hK' : c = [.string s] := hK
  have := hc 0 (.string s) (by rw [hK']; rfl)
  simpa [show Kd.string.sz = 1 from rfl] using this
theorem own_ok {α : Type} {d : Kd α} {t : TypeId} {w : World} {base : Nat} {ok : Nat → Prop} {v : Value} {xs : List α} (h : d.R t w base ok v xs) : ∀ k, v.ownBlock = some k → ok k := h.1
theorem look_at : ∀ {fs : Files} {i : Nat} {x : ByteArray × List Int}, fs.Pairwise (fun x y => x.1 ≠ y.1) → fs[i]? = some x → look fs x.1 = some x.2
  | [], i, x, _, h => by simp at h
  | y :: r, 0, x, _, h => by
    simp at h
    subst h
    unfold look
    simp
  | y :: r, i + 1, x, hp, h => by
    obtain ⟨h1, h2⟩ := List.pairwise_cons.1 hp
    have h' : r[i]? = some x := by simpa using h
    have hne : y.1 ≠ x.1 := h1 x (List.mem_of_getElem? h')
    have := look_at h2 h'
    unfold look at this ⊢
    rw [List.find?_cons]
    simpa [hne] using this
theorem files_apart {w : World} {S : Nat → Prop} {vs : List (ByteArray × Value)} {fs : Files} (h2 : All2 (FileRow w S) vs fs) (h : vs.Pairwise (fun x y => x.1 ≠ y.1)) : fs.Pairwise (fun x y => x.1 ≠ y.1) := by
  induction vs generalizing fs with
  | nil => cases fs with | nil => exact List.Pairwise.nil | cons _ _ => exact h2.elim
  | cons a vs ih =>
    cases fs with
    | nil => exact h2.elim
    | cons b fs =>
      obtain ⟨k1, k2⟩ := List.pairwise_cons.1 h
      refine List.pairwise_cons.2 ⟨fun y hy => ?_, ih h2.2 k2⟩
      obtain ⟨i, hi⟩ := List.getElem?_of_mem hy
      obtain ⟨a', ha', hr⟩ := All2.get h2.2 hi
      rw [← h2.1.1, ← hr.1]
      exact k1 a' (List.mem_of_getElem? ha')
theorem names_eq {w : World} {S : Nat → Prop} : ∀ {vs : List (ByteArray × Value)} {fs : Files}, All2 (FileRow w S) vs fs → (vs.map fun x => x.1) = fs.map fun x => x.1
  | [], [], _ => rfl
  | _ :: _, _ :: _, h => by rw [List.map_cons, List.map_cons, h.1.1, names_eq h.2]
set_option maxRecDepth 100000 in
set_option maxHeartbeats 4000000 in
theorem files_any (w : World) (base g : Nat) (S : Nat → Prop) (d : D) (h : DiskAt w base g S d) (hsm : Small d) :
    Calls Try.prog 20 #[pt g] w fun r w' => ∃ v, r = .returned v ∧ kFile.R 45 w' w.heap.size (fun _ => True) v d.now ∧ Below w.heap.size w w' := by
  obtain ⟨bn, bs, vc, cs, Sc, hc, hp⟩ := h.row
  obtain ⟨vs, hown, h2⟩ := hp.now
  have hgl := h.glt
  obtain ⟨_, c1, _, _, _, _, _⟩ := cells7 hc
  have hlen := h2.length
  have hnl := hsm.now
  have hap := files_apart h2 (own_apart hown)
  have hnm := names_eq h2
  obtain ⟨m, hm⟩ : ∃ m, m = d.now.length := ⟨_, rfl⟩
  rw [← hm] at hnl
  have hks := keys_any bn w
  have hso := sorted_any w bn vs hown (by rw [hlen, ← hm]; exact hnl)
  rw [hnm] at hso
  have HA := Lib.hid (And.intro hap (And.intro hm hlen))
  have HO := Lib.hid hown
  have H2 := Lib.hid h2
  have HEA := Lib.hid hsm.each.1
  have HK := Lib.hid hks
  have HSO := Lib.hid hso
  have HC := Lib.hid hc
  clear h hc hp hown h2 hsm hap hlen hnm hm hks hso
  go_enter Try.func20, Try.ntmps20
  go_wp2_with fail
  refine HK.out.mono ?_
  rintro e w1 ⟨rfl, e1⟩
  rw [e1]
  clear e1 w1
  go_wp2_with fail
  refine HSO.out.mono ?_
  rintro e w2 ⟨v2, rfl, hR2, hB2⟩
  obtain ⟨A2, cc2, rfl, hcc2, hC2⟩ := Kd.R_reads hR2
  rw [List.length_map] at hcc2 hC2
  rw [List.length_map, ← HA.out.2.1]
  rw [← HA.out.2.1] at hC2
  have HC2 := Lib.hid hC2
  have HB2 := Lib.hid hB2
  clear hR2 hB2 hC2 hcc2
  go_wp2_with fail
  go_loopw [3, 13] (fun vo vi wr => ∃ i : Nat, vi = .int .i64 (i : Int) ∧ i ≤ m ∧ kFile.R 45 wr w.heap.size (fun k => w2.heap.size ≤ k) vo (d.now.take i) ∧ Below w.heap.size w wr ∧ Below w2.heap.size w2 wr) (fun _ vi _ => m - (Lib.intOf vi).toNat)
  case atStart => exact ⟨0, rfl, Nat.zero_le _, by rw [List.take_zero]; exact Kd.R_nil _ _ _ _ _, HB2.out, Below.refl _ _⟩
  case round =>
    obtain ⟨i, rfl, hi, hR, hB, hBs⟩ := hrel
    by_cases hin : i < m
    · have d1 : (i : Int) < (m : Int) := by omega
      obtain ⟨x, hx⟩ : ∃ x, d.now[i]? = some x := ⟨_, List.getElem?_eq_getElem (by rw [← HA.out.2.1]; exact hin)⟩
      obtain ⟨ad, e, hcell⟩ := at_name (Kd.C_below HC2.out hBs) i x.1 (by rw [List.getElem?_map, hx]; rfl)
      subst e
      obtain ⟨nm, hnm⟩ : ∃ s, s = x.1 := ⟨_, rfl⟩
      obtain ⟨nd, hnd⟩ : ∃ k, k = x.2.length := ⟨_, rfl⟩
      rw [← hnm] at hcell
      have hlk := look_at HA.out.1 hx
      have h2r : All2 (FileRow wr S) vs d.now := H2.out.imp (fun _ _ h => h.step (Turns.of_below hB S) (fun _ h => .inl h))
      obtain ⟨hq, Ao, co, hgo, hco, hCo⟩ := look_row h2r nm
      rw [hnm, hlk] at hgo hco hCo
      simp only [Option.getD_some] at hgo hco hCo
      rw [← hnm, ← hnd] at hgo
      rw [← hnd] at hco
      have hmem := List.mem_of_getElem? hx
      have gnd : nd ≤ 65536 := by rw [hnd]; exact HEA.out x hmem
      have hownr : OwnM wr bn vs := own_move HO.out (hB.block bn (OwnM.lt HO.out))
      have gnm : nm.size ≤ maxLen := by
        obtain ⟨a', ha', hr⟩ := All2.get h2r hx
        obtain ⟨es, clock, h1, F, h3, h4⟩ := hownr
        have hmem' : entW a' ∈ vs.map entW := List.mem_map.2 ⟨a', List.mem_of_getElem? ha', rfl⟩
        have h4' : vs.map entW = (es.toList.map (WideElems.rg Try.prog 9 rdSl)).foldr DataW.insert [] := DataW.map.inj h4
        rw [h4'] at hmem'
        obtain ⟨e1, he1, he2⟩ := List.mem_map.1 (mem_sorted.1 hmem')
        obtain ⟨y, hy⟩ := F.reads e1 he1
        have hk := WideElems.rd_key hy
        rw [WideElems.rg_of hy] at he2
        have hu := Try.underlying9
        have hkey : y.1 = Lit.string a'.1.data.toList := congrArg Prod.fst he2
        rw [hkey] at hk
        cases hek : e1.key <;> rw [hek] at hk <;> simp [keyOf, mapKey, hu] at hk
        rename_i s'
        have hs' : s' = a'.1 := bytes_inj (by simpa using hk.2)
        rw [hnm, ← hr.1, ← hs']
        exact hk.1
      have hl1 : (Instr.lookup 50 (.map (some bn)) (.string nm) false).run Try.prog wr = .ok (.slice Ao nd co) wr := by
        have h3 := OwnM.look1 hownr gnm
        rw [hgo] at h3
        exact h3
      have hcr := (hB.block g hgl).trans HC.out
      obtain ⟨_, c1r, _, _, _, _, _⟩ := cells7 hcr
      have hcl := clone_any Ao co x.2 wr hCo (by rw [← hnd]; exact hco) (by rw [← hnd]; omega)
      rw [← hnd] at hcl
      obtain ⟨Av, cv, ev, _, _⟩ := Kd.R_reads hR
      have htl : (d.now.take i).length = i := by rw [List.length_take, ← HA.out.2.1]; omega
      rw [htl] at ev
      subst ev
      have hgr := blk_lt hcr
      have HRr := Lib.hid hR
      have HBr := Lib.hid (And.intro hB hBs)
      have HCL := Lib.hid hcl
      have HX := Lib.hid (And.intro hx (And.intro hnm hnd))
      have HTL := Lib.hid htl
      clear hR hB hBs hcl hx hnm hnd hownr h2r hq hgo hco hCo hlk hcr hmem htl
      go_wp2_with (first
        | (at_lookup; fail)
        | fail)
      refine HCL.out.mono ?_
      rintro e w5 ⟨v5, rfl, hR5, hB5⟩
      obtain ⟨A5, c5, e5⟩ := Kd.R_slice hR5
      rw [← HX.out.2.2] at e5
      subst e5
      have HR5 := Lib.hid hR5
      have HB5 := Lib.hid hB5
      clear hR5 hB5 hcell hl1 c1r
      go_wp2_with (at_builtin; refine Kd.R_append kFile (w0 := w) (W := w5) w.heap.size rfl _ _ 46 45 (.agg #[.string ByteArray.empty, .slice none 0 0]) 40 rfl Try.underlying46 infoFile rfl (by decide) (by decide) (.slice Av i cv) (d.now.take i) (nm, x.2) [.string nm, .slice A5 nd c5] (fun k => w2.heap.size ≤ k) (fun k => wr.heap.size ≤ k) rfl rfl ?hp ?hokp ?hfresh ?HO ?HBB ?hb2 ?hl2 ?hk2)
      case hp => exact kFile_mkM (Kd.R_lower (Kd.R_mono (Kd.R_bound HR5.out) (fun k hk => hk.2.1)) HBr.out.1.size)
      case hokp =>
        intro k hk
        have hk' : wr.heap.size ≤ k := hk
        refine ⟨by have := HBr.out.2.size; omega, fun e' => ?_⟩
        have := Kd.R_lt HRr.out k e'.symm
        omega
      case hfresh =>
        intro k hk
        have h1 := HBr.out.2.size
        have h2 := HB5.out.size
        show w2.heap.size ≤ k
        omega
      case HO => exact Kd.R_below HRr.out HB5.out
      case HBB => exact HBr.out.1.trans (HB5.out.mono HBr.out.1.size)
      case hb2 => have h1 := HBr.out.1.size; have h2 := HB5.out.size; omega
      case hl2 => rw [HTL.out]; omega
      case hk2 =>
        intro v1 w6 hR6 hB6 hg6 _
        obtain ⟨A6, c6, rfl⟩ := Kd.R_slice hR6
        have htk : d.now.take (i + 1) = d.now.take i ++ [(nm, x.2)] := by
          rw [List.take_add_one, HX.out.1, HX.out.2.1]
          rfl
        have hB26 : Below w2.heap.size w2 w6 := by
          have h1 : Below w2.heap.size w2 w5 := HBr.out.2.trans (HB5.out.mono HBr.out.2.size)
          refine h1.grown hg6 h1.size (fun k hk => ?_)
          exact own_ok HRr.out k hk
        have HEND := Lib.hid (And.intro (show kFile.R 45 w6 w.heap.size (fun k => w2.heap.size ≤ k) (.slice A6 (d.now.take i ++ [(nm, x.2)]).length c6) (d.now.take (i + 1)) by rw [htk]; exact hR6) (And.intro hB6 hB26))
        clear hR6 hB6 hg6 htk hB26
        go_wp2_with fail
        refine ⟨⟨i + 1, by simp, by omega, HEND.out.1, HEND.out.2.1, HEND.out.2.2⟩, ?_⟩
        simp [Lib.intOf]
        omega
    · have hie : i = m := by omega
      have d1 : ¬ (i : Int) < (m : Int) := by omega
      have HE := Lib.hid (And.intro (show kFile.R 45 wr w.heap.size (fun _ => True) u3 d.now by
        have h := Kd.R_mono hR (ok' := fun _ => True) (fun _ _ => trivial)
        rw [hie, HA.out.2.1, List.take_length] at h
        exact h) hB)
      clear hR hB hBs hie
      go_wp2_with fail
      go_ret
      exact ⟨_, rfl, HE.out.1, HE.out.2⟩
end Go.Proofs.Ytnjdighpdcabcaa
