import Derived.Test.YtijfedahhgcfpaaDoorWWords
import Derived.Deep.Slices
import Derived.SizedLaws
import Derived.WideShapes
set_option linter.unusedVariables false
set_option linter.unusedSimpArgs false
/-! What an argument that can be read as data is, in the words of the kinds (Kd): type by type. -/
namespace Go.Proofs.YtijfedahhgcfpaaDoor
open Go.RowKit Go.Proofs.YtijfedahhgcfpaaDoorW.PrintWords

/-- Whatever is read at type t is of kind d, and 'good'. -/
structure Opens {α : Type} (P : Program) (t : TypeId) (d : Kd α) (good : α → Prop) : Prop where
  run : ∀ {H : Type} {enc : TypeId × Value → H} {w : World} {base : Nat} {spare : Nat → Bool} {held : Bool} {fuel : Nat} {cs : List Value} {x : DataW H × List MemPlace},
    DataW.trod enc P w base spare held fuel t cs = some x → (∀ n ∈ x.1.weights P t, n ≤ reachBytes) → ∃ a, d.K w a cs ∧ good a

theorem Opens.int {P : Program} {t : TypeId} {k : IntKind} (ht : P.underlying t = some (.int k)) : Opens P t (Kd.int k) (fun n => (Lit.int k n).wf = true) := by
  refine ⟨?_⟩
  intro H enc w base spare held fuel cs x h _
  obtain ⟨n, rfl, rfl, hw⟩ := DataW.trod_int ht h
  exact ⟨n, rfl, hw⟩
theorem Opens.bool {P : Program} {t : TypeId} (ht : P.underlying t = some .bool) : Opens P t Kd.bool (fun _ => True) := by
  refine ⟨?_⟩
  intro H enc w base spare held fuel cs x h _
  obtain ⟨b, rfl, rfl⟩ := DataW.trod_bool ht h
  exact ⟨b, rfl, trivial⟩
theorem Opens.string {P : Program} {t : TypeId} (ht : P.underlying t = some .string) : Opens P t Kd.string (fun s => s.size ≤ 140737488351232) := by
  refine ⟨?_⟩
  intro H enc w base spare held fuel cs x h hw
  obtain ⟨s, rfl, rfl, _⟩ := DataW.trod_string ht h
  refine ⟨s, rfl, ?_⟩
  have := hw s.data.toList.length (by simp [DataW.weights])
  rw [Array.length_toList] at this
  exact this

theorem weights_all {H : Type} {P : Program} {e : TypeId} : ∀ {l : List (DataW H)} {d : DataW H}, d ∈ l → ∀ n ∈ d.weights P e, n ∈ DataW.weightsAll P e l
  | [], _, h, _, _ => by cases h
  | a :: l, d, h, n, hn => by
    simp only [DataW.weightsAll, List.mem_append]
    rcases List.mem_cons.1 h with rfl | h
    · exact .inl hn
    · exact .inr (weights_all h n hn)

theorem Opens.slice {α : Type} {P : Program} {t e : TypeId} {d : Kd α} {good : α → Prop} {B : Nat} (ht : P.underlying t = some (.slice e)) (hc : P.cellsOf e = d.sz) (hB : P.bytesOf e = B) (ho : Opens P e d good) :
    Opens P t (Kd.slice e d) (fun xs => xs.length * B ≤ 140737488351232 ∧ ∀ x ∈ xs, good x) := by
  classical
  refine ⟨?_⟩
  intro H enc w base spare held fuel cs x h hw
  rcases Go.Deep.open_slice ht h with ⟨rfl, rfl⟩ | ⟨a, len, cap, m, n, D, Pl, rfl, hb, hl, hm, hmm, rfl, hx⟩
  · exact ⟨[], ⟨none, 0, rfl, Nat.le_refl _, ⟨rfl, by simp, fun h => by simp at h⟩⟩, by simp, by simp⟩
  · have hlm : len ≤ m := by rw [hmm]; split <;> omega
    have hw' : ∀ n ∈ (DataW.slice ((List.range len).map D) ((List.range (m - len)).map fun j => D (len + j))).weights P t, n ≤ reachBytes := hw
    simp only [DataW.weights, ht, List.mem_cons, List.mem_append, List.length_map, List.length_range] at hw'
    have hsz : len * B ≤ 140737488351232 := by
      have := hw' _ (.inl rfl)
      rw [hB] at this
      have h2 : len * B ≤ (len + (m - len)) * B := Nat.mul_le_mul_right _ (by omega)
      exact Nat.le_trans h2 this
    have hel : ∀ i, i < len → ∃ p : α × List Value, p.2.length = d.sz ∧ d.K w p.1 p.2 ∧ good p.1 ∧ ∀ j u, p.2[j]? = some u → w.cell? (a.add (i * d.sz + j)) = some u := by
      intro i hi
      obtain ⟨cs', h1, h2⟩ := hx i (by omega)
      obtain ⟨y, hK, hg⟩ := ho.run h2 (fun n hn => hw' n (.inr (.inl (weights_all (List.mem_map.2 ⟨i, List.mem_range.2 hi, rfl⟩) n hn))))
      obtain ⟨_, hlen, hcell⟩ := World.cells?_some h1
      rw [hc] at hlen hcell
      refine ⟨(y, cs'), hlen, hK, hg, fun j u hu => ?_⟩
      have hj : j < d.sz := by rw [← hlen]; exact (List.getElem?_eq_some_iff.1 hu).1
      have := hcell j hj
      rw [Go.Deep.add_add] at this
      rw [this]
      exact hu
    by_cases h0 : len = 0
    · subst h0
      exact ⟨[], ⟨some a, cap, rfl, Nat.zero_le _, ⟨rfl, by simp, fun h => by simp at h⟩⟩, by simp, by simp⟩
    · haveI : Inhabited (α × List Value) := ⟨Classical.choose (hel 0 (by omega))⟩
      obtain ⟨F, hF⟩ := Go.Deep.choose_lt hel
      refine ⟨(List.range len).map fun i => (F i).1, ⟨some a, cap, by simp, by simpa using hl, ?_⟩, by simpa using hsz, ?_⟩
      · refine ⟨rfl, ?_, fun _ => ⟨a, rfl, fun j p hp => ?_⟩⟩
        · have := maxLen
          simp only [List.length_map, List.length_range]
          simp only [maxLen] at hm
          omega
        · have hj : j < len := by simpa using (List.getElem?_eq_some_iff.1 hp).1
          obtain ⟨h1, h2, h3, h4⟩ := hF j hj
          have e : (F j).1 = p := by simpa [List.getElem?_map, List.getElem?_range hj] using hp
          refine ⟨(F j).2, h1, by rw [← e]; exact h2, h4⟩
      · intro x hx
        obtain ⟨i, hi, rfl⟩ := List.mem_map.1 hx
        exact (hF i (List.mem_range.1 hi)).2.2.1

/-- Fields one behind the other, from a place on. -/
structure OpensF {α : Type} (P : Program) (fs : List Field) (off : Nat) (d : Kd α) (good : α → Prop) : Prop where
  run : ∀ {H : Type} {enc : TypeId × Value → H} {w : World} {base : Nat} {spare : Nat → Bool} {held : Bool} {n : Nat} {cs : List Value} {xs : List (DataW H × List MemPlace)},
    cs.length = off + d.sz → xs.length = fs.length →
    (∀ (i : Nat) (f : Field), fs[i]? = some f → DataW.trod enc P w base spare held n f.type ((cs.drop f.offset).take (P.cellsOf f.type)) = xs[i]?) →
    (∀ n ∈ DataW.weightsEach P (fs.map (·.type)) (xs.map (·.1)), n ≤ reachBytes) → ∃ a, d.K w a (cs.drop off) ∧ good a

theorem OpensF.one {α : Type} {P : Program} {f : Field} {off : Nat} {d : Kd α} {good : α → Prop} (hoff : f.offset = off) (hc : P.cellsOf f.type = d.sz) (ho : Opens P f.type d good) : OpensF P [f] off d good := by
  refine ⟨?_⟩
  intro H enc w base spare held n cs xs hlen hxs hf hw
  match xs, hxs with
  | [x], _ =>
    have h := hf 0 f rfl
    rw [hoff, hc] at h
    have e : (cs.drop off).take d.sz = cs.drop off := List.take_of_length_le (by rw [List.length_drop]; omega)
    rw [e] at h
    exact ho.run h (fun n hn => hw n (by simp only [List.map_cons, List.map_nil, DataW.weightsEach, List.append_nil]; exact hn))

theorem OpensF.cons {α β : Type} {P : Program} {f : Field} {fs : List Field} {off : Nat} {d : Kd α} {d' : Kd β} {good : α → Prop} {good' : β → Prop} (hoff : f.offset = off) (hc : P.cellsOf f.type = d.sz) (ho : Opens P f.type d good)
    (hs : OpensF P fs (off + d.sz) d' good') : OpensF P (f :: fs) off (Kd.pair d d') (fun p => good p.1 ∧ good' p.2) := by
  refine ⟨?_⟩
  intro H enc w base spare held n cs xs hlen hxs hf hw
  match xs, hxs with
  | x :: xs, hxs =>
    have h := hf 0 f rfl
    rw [hoff, hc] at h
    have hlen' : cs.length = off + (d.sz + d'.sz) := hlen
    simp only [List.map_cons, DataW.weightsEach, List.mem_append] at hw
    obtain ⟨a, ha, ga⟩ := ho.run h (fun n hn => hw n (.inl hn))
    obtain ⟨b, hb, gb⟩ := hs.run (cs := cs) (xs := xs) (by omega) (by simpa using hxs) (fun i f hi => by simpa using hf (i + 1) f (by simpa using hi)) (fun n hn => hw n (.inr hn))
    refine ⟨(a, b), ⟨_, _, ?_, ha, hb⟩, ga, gb⟩
    rw [← List.drop_drop, List.take_append_drop]

theorem Opens.struct {α : Type} {P : Program} {t : TypeId} {fs : Array Field} {d : Kd α} {good : α → Prop} (ht : P.underlying t = some (.struct fs)) (hc : P.cellsOf t = d.sz) (ho : OpensF P fs.toList 0 d good) : Opens P t d good := by
  refine ⟨?_⟩
  intro H enc w base spare held fuel cs x h hw
  obtain ⟨xs, n, rfl, rfl, hlen, hxs, hf⟩ := DataW.trod_struct ht h
  have hw' : ∀ n ∈ (DataW.agg (xs.map (·.1))).weights P t, n ≤ reachBytes := hw
  simp only [DataW.weights, ht] at hw'
  have := ho.run (cs := cs) (xs := xs) (by rw [hlen, hc]; omega) (by simpa using hxs) (fun i f hi => hf i f (by simpa using hi)) hw'
  simpa using this

theorem Opens.iso {α β : Type} {P : Program} {t : TypeId} {d : Kd α} {good : α → Prop} (ho : Opens P t d good) (f : β → α) (g : α → β) (hfg : ∀ a, f (g a) = a) : Opens P t (Kd.iso d f) (fun b => good (f b)) := by
  refine ⟨?_⟩
  intro H enc w base spare held fuel cs x h hw
  obtain ⟨a, ha, hg⟩ := ho.run h hw
  refine ⟨g a, ?_, ?_⟩
  · show d.K w (f (g a)) cs
    rw [hfg]
    exact ha
  · simp only [hfg]
    exact hg

/-- An argument of the row. -/
theorem open_arg {α : Type} {H : Type} {enc : TypeId × Value → H} {P : Program} {w : World} {base : Nat} {spare : Nat → Bool} {held : Bool} {t : TypeId} {d : Kd α} {good : α → Prop} {v : Value} {x : DataW H} {ps : List MemPlace} {ts : List TypeId} {ds : List (DataW H)} {j : Nat}
    (ho : Opens P t d good) (h : DataW.Trod enc P w base spare held t v x ps) (hsz : (DataW.weightsEach P ts ds).all (· ≤ reachBytes) = true) (hj : ts[j]? = some t) (hd : ds[j]? = some x) : ∃ a, d.K w a v.cells.toList ∧ good a := by
  obtain ⟨fuel, hf⟩ := h
  exact ho.run hf (fun n hn => by simpa using List.all_eq_true.1 hsz n (DataW.weights_mem_each hj hd n hn))
end Go.Proofs.YtijfedahhgcfpaaDoor
