/- Patches as arguments; Great and Same in one form. -/
import Derived.Test.YtijfedahhgcfpaaDoorNm
import Derived.Test.YtijfedahhgcfpaaDoorNamS
import Derived.Test.YtijfedahhgcfpaaDoorOpen
set_option linter.unusedVariables false
set_option linter.unusedSimpArgs false
namespace Go.Proofs.YtijfedahhgcfpaaDoor
open Go.RowKit Go.Proofs.YtijfedahhgcfpaaDoorW.PrintWords Go.Proofs.YtijfedahhgcfpaaDoorW.PrintLast

abbrev kBs : Kd (List Int) := Kd.slice 5 (Kd.int .u8)
abbrev kTx : Kd (List ByteArray) := Kd.slice 9 Kd.string
abbrev kPs : Kd (List Prm) := Kd.slice 39 kPrm
def kPat : Kd Pat := Kd.iso (Kd.pair Kd.string (Kd.pair kTx kPs)) (fun p : Pat => (p.name, p.deps, p.body))
def goodB (l : List Int) : Prop := l.length * 1 ≤ 140737488351232 ∧ ∀ x ∈ l, (Lit.int .u8 x).wf = true
theorem opens_bytes : Opens Tryd.prog 26 kBs goodB :=
  Opens.slice Tryd.underlying26 (by kernel_rfl) (B := 1) (by kernel_rfl) (Opens.int Tryd.underlying5)
def goodL (xs : List ByteArray) : Prop := xs.length * 16 ≤ 140737488351232 ∧ ∀ x ∈ xs, x.size ≤ 140737488351232
theorem opens_lines : Opens Tryd.prog 22 kTx goodL :=
  Opens.slice Tryd.underlying22 (by kernel_rfl) (B := 16) (by kernel_rfl) (Opens.string Tryd.underlying9)
def goodX (x : Prm) : Prop := (Lit.int .i64 x.f0).wf = true ∧ x.f1.size ≤ 140737488351232 ∧ x.f2.size ≤ 140737488351232 ∧ x.f3.size ≤ 140737488351232 ∧ (Lit.int .i64 x.f4).wf = true ∧ goodL x.f5 ∧ goodL x.f6
set_option maxRecDepth 100000 in
theorem opens_prim : Opens Tryd.prog 39 kPrm goodX :=
  Opens.iso (Opens.struct Tryd.underlying39 (by kernel_rfl) (OpensF.cons rfl (by kernel_rfl) (Opens.int Tryd.underlying3) (OpensF.cons rfl (by kernel_rfl) (Opens.string Tryd.underlying9) (OpensF.cons rfl (by kernel_rfl) (Opens.string Tryd.underlying9) (OpensF.cons rfl (by kernel_rfl) (Opens.string Tryd.underlying9)
    (OpensF.cons rfl (by kernel_rfl) (Opens.int Tryd.underlying3) (OpensF.cons rfl (by kernel_rfl) opens_lines (OpensF.one rfl (by kernel_rfl) opens_lines))))))))
    (fun x : Prm => (x.f0, x.f1, x.f2, x.f3, x.f4, x.f5, x.f6)) (fun p => ⟨p.1, p.2.1, p.2.2.1, p.2.2.2.1, p.2.2.2.2.1, p.2.2.2.2.2.1, p.2.2.2.2.2.2⟩) (fun _ => rfl)
def goodXs (l : List Prm) : Prop := l.length * 112 ≤ 140737488351232 ∧ ∀ x ∈ l, goodX x
theorem opens_prims : Opens Tryd.prog 23 kPs goodXs :=
  Opens.slice Tryd.underlying23 (by kernel_rfl) (B := 112) (by kernel_rfl) opens_prim
def goodPat (p : Pat) : Prop := p.name.size ≤ 140737488351232 ∧ goodL p.deps ∧ goodXs p.body
set_option maxRecDepth 100000 in
theorem opens_pat : Opens Tryd.prog 25 kPat goodPat :=
  Opens.iso (Opens.struct Tryd.underlying25 (by kernel_rfl) (OpensF.cons rfl (by kernel_rfl) (Opens.string Tryd.underlying9) (OpensF.cons rfl (by kernel_rfl) opens_lines (OpensF.one rfl (by kernel_rfl) opens_prims))))
    (fun p : Pat => (p.name, p.deps, p.body)) (fun p => ⟨p.1, p.2.1, p.2.2⟩) (fun _ => rfl)
theorem bytes_open {w : World} {l : List Int} {A : Option Addr} {n c : Nat} (h : kBs.K w l [.slice A n c]) : n = l.length ∧ n ≤ c ∧ Kd.C (Kd.int .u8) w A n l := by
  obtain ⟨A', c', e, l', hr⟩ := h
  injection e with e _
  injection e with a b c
  subst a b c
  exact ⟨rfl, l', hr⟩
theorem pat_open {w : World} {p : Pat} {cs : Array Value} (h : kPat.K w p cs.toList) : ∃ Ad cd Ab cb, cs = #[.string p.name, .slice Ad p.deps.length cd, .slice Ab p.body.length cb] ∧ p.deps.length ≤ cd ∧ Kd.string.C w Ad p.deps.length p.deps ∧ p.body.length ≤ cb ∧ Kd.C kPrm w Ab p.body.length p.body := by
  obtain ⟨c1, c2, e, rfl, ⟨c3, c4, rfl, ⟨Ad, cd, rfl, ld, gd⟩, ⟨Ab, cb, rfl, lb, gb⟩⟩⟩ := h
  exact ⟨Ad, cd, Ab, cb, by
    have : cs = cs.toList.toArray := by simp
    rw [this, e]
    rfl, ld, gd, lb, gb⟩
theorem prim_open {w : World} {x : Prm} {cs : Array Value} (h : kPrm.K w x cs.toList) : ∃ A5 c5 A6 c6, cs = #[.int .i64 x.f0, .string x.f1, .string x.f2, .string x.f3, .int .i64 x.f4, .slice A5 x.f5.length c5, .slice A6 x.f6.length c6] ∧ x.f5.length ≤ c5 ∧ Kd.string.C w A5 x.f5.length x.f5 ∧ x.f6.length ≤ c6 ∧ Kd.string.C w A6 x.f6.length x.f6 := by
  obtain ⟨A5, c5, A6, c6, e, l5, g5, l6, g6⟩ := PNamedBack.k39_open h
  exact ⟨A5, c5, A6, c6, by
    have : cs = cs.toList.toArray := by simp
    rw [this, e], l5, g5, l6, g6⟩
theorem wf_u8 {c : Int} (h : (Lit.int .u8 c).wf = true) : 0 ≤ c ∧ c ≤ 255 := by
  have h : IntKind.u8.min ≤ c ∧ c ≤ IntKind.u8.max := by simpa [Lit.wf] using h
  have e1 : IntKind.u8.min = 0 := by decide
  have e2 : IntKind.u8.max = 255 := by decide
  omega
/-- Bytes that are handed in. -/
theorem nmI_of (l : List Int) (h : ∀ x ∈ l, (Lit.int .u8 x).wf = true) : ∃ b : List UInt8, nmI b = l := by
  refine ⟨l.map fun x => UInt8.ofNat x.toNat, ?_⟩
  unfold nmI
  rw [List.map_map]
  conv => rhs; rw [← List.map_id l]
  refine List.map_congr_left (fun x hx => ?_)
  have hx := wf_u8 (h x hx)
  show ((UInt8.ofNat x.toNat).toNat : Int) = x
  rw [UInt8.toNat_ofNat_of_lt' (show x.toNat < 256 by omega)]
  omega
theorem goodX.cap {x : Prm} (h : goodX x) : x.f5.length ≤ capN ∧ x.f6.length ≤ capN := by
  have h5 := h.2.2.2.2.2.1.1
  have h6 := h.2.2.2.2.2.2.1
  unfold capN
  omega
theorem goodPat.cap {p : Pat} (h : goodPat p) : CapPat p := by
  have h1 := h.2.1.1
  have h2 := h.2.2.1
  refine ⟨?_, ?_, fun x hx => (h.2.2.2 x hx).cap⟩ <;> (unfold capN; omega)
theorem LessPat.cap {p : Pat} (h : LessPat p) : CapPat p := by
  have h1 := h.deps.1
  have h2 := h.few
  refine ⟨?_, ?_, fun x hx => ?_⟩
  · unfold capN; omega
  · unfold capN; omega
  · have := (h.body x hx).2.2.2.1.1
    have := (h.body x hx).2.2.2.2.1
    unfold capN
    omega
theorem great_any (p : Pat) (hc : CapPat p) (Ad Ab : Option Addr) (nd nb cd cb : Nat) (hnd : p.deps.length = nd) (hnb : p.body.length = nb) (w : World) (hD : Kd.string.C w Ad nd p.deps) (hcd : nd ≤ cd) (hP : Kd.C kPrm w Ab nb p.body) (hcb : nb ≤ cb) :
    Calls Tryd.prog 8 #[.agg #[.string p.name, .slice Ad nd cd, .slice Ab nb cb]] w fun e w' => ∃ r, e = .returned (.bool r) ∧ (r = false → LessPat p) ∧ Below w.heap.size w w' := by
  subst hnd hnb
  obtain ⟨r, k, h1, h2⟩ := great13_f p hc
  refine (PNamedBack.counterpanelaw13_Great.calls k p.name Ad cd p.deps Ab cb p.body r w hD hcd hP hcb h1).mono ?_
  rintro e w' ⟨rfl, hB⟩
  exact ⟨r, rfl, h2, hB⟩
theorem great8_any (x : Prm) (hc : goodX x) (A5 A6 : Option Addr) (c5 c6 : Nat) (w : World) (hr : PrmRow w x A5 c5 A6 c6) :
    Calls Tryd.prog 13 #[.agg #[.int .i64 x.f0, .string x.f1, .string x.f2, .string x.f3, .int .i64 x.f4, .slice A5 x.f5.length c5, .slice A6 x.f6.length c6]] w fun e w' => ∃ r, e = .returned (.bool r) ∧ (r = false → lessP x) ∧ Below w.heap.size w w' := by
  obtain ⟨r, h1, h2⟩ := great8_f x hc.cap.1 hc.cap.2
  refine (PNamedBack.counterpanelaw08_Great.calls (x.f5.length + x.f6.length + 3) x.f0 x.f1 x.f2 x.f3 x.f4 A5 c5 x.f5 A6 c6 x.f6 r w hr.g5 hr.l5 hr.g6 hr.l6 (h1 _ (by omega))).mono ?_
  rintro e w' ⟨rfl, hB⟩
  exact ⟨r, rfl, h2, hB⟩
theorem same_any (p q : Pat) (hc : CapPat p) (Ad Ab : Option Addr) (nd nb cd cb : Nat) (hnd : p.deps.length = nd) (hnb : p.body.length = nb) (Ae Af : Option Addr) (ne nf ce cf : Nat) (hne : q.deps.length = ne) (hnf : q.body.length = nf) (w : World) (hD : Kd.string.C w Ad nd p.deps) (hcd : nd ≤ cd) (hP : Kd.C kPrm w Ab nb p.body) (hcb : nb ≤ cb) (hE : Kd.string.C w Ae ne q.deps) (hce : ne ≤ ce) (hF : Kd.C kPrm w Af nf q.body) (hcf : nf ≤ cf) :
    Calls Tryd.prog 12 #[.agg #[.string p.name, .slice Ad nd cd, .slice Ab nb cb], .agg #[.string q.name, .slice Ae ne ce, .slice Af nf cf]] w fun e w' => e = .returned (.bool (sameB p q)) ∧ Below w.heap.size w w' := by
  subst hnd hnb hne hnf
  obtain ⟨k, h1⟩ := same13_f p q hc
  exact PNamedBack.counterpaneref13_Same.calls k p.name Ad cd p.deps Ab cb p.body q.name Ae ce q.deps Af cf q.body (sameB p q) w hD hcd hP hcb hE hce hF hcf h1
end Go.Proofs.YtijfedahhgcfpaaDoor
