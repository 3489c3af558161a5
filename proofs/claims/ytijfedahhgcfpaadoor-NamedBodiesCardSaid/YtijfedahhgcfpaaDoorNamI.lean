/- named.Put: its walk. -/
import Derived.Test.YtijfedahhgcfpaaDoorNamH
import Derived.Lib.ConvBytes
import Derived.Lib.AtoiErrMem
import Derived.Laws.AppendOwn
set_option linter.unusedVariables false
set_option linter.unusedSimpArgs false
namespace Go.Proofs.YtijfedahhgcfpaaDoor
open Go.RowKit Go.Proofs.YtijfedahhgcfpaaDoorW.PrintWords Go.Proofs.YtijfedahhgcfpaaDoorW.PrintLast

theorem strs_C {W : World} {g : Nat} {t : TypeId} {fr : Nat × Nat} (xs : List ByteArray) (n : Nat) (hn : xs.length = n) (hb : n ≤ 1000000000) (h : W.heap[g]? = some (.cells (xs.map Value.string).toArray t fr)) : Kd.string.C W (some ⟨g, 0, none⟩) n xs := by
  refine Kd.C_of_reads (d := (⟨#[]⟩ : ByteArray)) ⟨hn, by omega, fun _ => ⟨_, rfl, fun j hj => ?_⟩⟩
  rw [show (⟨g, 0, none⟩ : Addr).add j = ⟨g, j, none⟩ by cases j <;> simp [Addr.add]]
  rw [cell_of_row _ _ _ _ _ _ h]
  have : j < xs.length := by omega
  simp [this]
theorem wr_start (B : Nat) (w : World) (hB : B ≤ w.heap.size) : Wr B w.heap.size [] (w.alloc (.cells #[.pointer none, .slice none 0 0] 50)) (w.alloc (.cells #[.pointer none, .slice none 0 0] 50)) :=
  Wr.here (Lib.IsBuilderF.of (.inl ⟨hB, _, heap_alloc_new w _, World.ownsRow_nil _ _ _ _, by simp [Value.ownBlock]⟩)) (by simp; omega)
theorem Wr.alloc {B b : Nat} {l : List UInt8} {w0 w : World} (h : Wr B b l w0 w) (o : Obj) : Wr B b l w0 (w.alloc o) := h.step ((Below.refl _ _).alloc (Nat.le_refl _) o)
theorem flat_next {α : Type} (E : α → List UInt8) (l : List α) (i : Nat) (x : α) (h : l[i]? = some x) : ((l.take (i + 1)).map E).flatten = ((l.take i).map E).flatten ++ E x := by
  obtain ⟨hl, rfl⟩ := List.getElem?_eq_some_iff.1 h
  rw [← List.take_append_getElem hl, List.map_append, List.flatten_append]
  simp
theorem flat_pre {α : Type} (E : α → List UInt8) (l : List α) (i : Nat) : (((l.take i).map E).flatten).length ≤ ((l.map E).flatten).length := by
  have e : (l.map E).flatten = ((l.take i).map E).flatten ++ ((l.drop i).map E).flatten := by
    rw [← List.flatten_append, ← List.map_append, List.take_append_drop]
  rw [e, List.length_append]
  omega
theorem cell_keep {w w' : World} {p : Addr} {v : Value} (hB : Below w.heap.size w w') (h : w.cell? p = some v) : w'.cell? p = some v := by
  refine (hB.cell (p := p) ?_).trans h
  rcases Nat.lt_or_ge p.block w.heap.size with h0 | h0
  · exact h0
  · have : w.heap[p.block]? = none := Array.getElem?_eq_none h0
    simp [World.cell?, this] at h
def nmI (l : List UInt8) : List Int := l.map fun b => (b.toNat : Int)
theorem nmI_length (l : List UInt8) : (nmI l).length = l.length := by simp [nmI]
/-- A conversion of a string to bytes lays these. -/
theorem bytes_laidN (w : World) (s : ByteArray) (hs : s.size ≤ 140737488351232) : ∃ c W, (convert 9 26 (.string s)).run Tryd.prog w = .ok (.slice (some ⟨w.heap.size, 0, none⟩) s.size c) W ∧ s.size ≤ c ∧ Kd.C (Kd.int .u8) W (some ⟨w.heap.size, 0, none⟩) s.size (nmI s.data.toList) ∧ Below w.heap.size w W := by
  refine ⟨_, _, Lib.run_convert_string_bytes w 9 26 5 s Tryd.underlying9 Tryd.underlying26 Tryd.underlying5, ?_, ?_, ?_⟩
  · exact grownCap_ge w s.size 0 5
  · refine Kd.C_of_reads (d := (0 : Int)) ⟨by rw [nmI_length]; simp, by omega, fun _ => ⟨_, rfl, fun j hj => ?_⟩⟩
    rw [show (⟨w.heap.size, 0, none⟩ : Addr).add j = ⟨w.heap.size, j, none⟩ by cases j <;> simp [Addr.add]]
    rw [Lib.bytesWorld_cell w 5 s j hj]
    congr 2
    unfold nmI
    simp [List.getD_eq_getElem?_getD, hj]
  · exact Lib.bytesWorld_below w 5 s
/-- A row of bytes. -/
def BytesAt (w : World) (v : Value) (l : List UInt8) : Prop := ∃ A c, v = .slice A l.length c ∧ l.length ≤ c ∧ Kd.C (Kd.int .u8) w A l.length (nmI l)
theorem BytesAt.none (w : World) : BytesAt w (.slice Option.none 0 0) [] := ⟨Option.none, 0, rfl, Nat.le_refl _, Kd.C_nil _ _⟩
theorem BytesAt.below {w w' : World} {v : Value} {l : List UInt8} (h : BytesAt w v l) (hB : Below w.heap.size w w') : BytesAt w' v l := by
  obtain ⟨A, c, e, h1, h2⟩ := h
  exact ⟨A, c, e, h1, Kd.C_below h2 hB⟩
/-- A patch's bytes, if it is one. -/
def putL (p : Pat) : List UInt8 := if patR p = true then patE p else []
def putC (p : Pat) : Int := if patR p = true then 0 else 1
set_option maxRecDepth 100000 in
set_option maxHeartbeats 16000000 in
theorem put_any (p : Pat) (Ad Ab : Option Addr) (nd nb cd cb : Nat) (w : World) (hnd : p.deps.length = nd) (hnb : p.body.length = nb) (hD : Kd.string.C w Ad nd p.deps) (hP : Kd.C kPrm w Ab nb p.body) (hs : ∀ x ∈ p.body, sizesOk x) (bd : nd ≤ 1000000000) (bb : nb ≤ 1000000000)
    (hlen : patR p = true → (patE p).length ≤ 100000000000) (hG : Ground w) :
    Calls Tryd.prog 9 #[.agg #[.string p.name, .slice Ad nd cd, .slice Ab nb cb]] w fun e w' => ∃ v, e = .returned (.tuple #[v, .int .i64 (putC p)]) ∧ BytesAt w' v (putL p) ∧ Below w.heap.size w w' := by
  obtain ⟨q, hq⟩ : ∃ q, q = patR p := ⟨_, rfl⟩
  have HR := Lib.hid (fun W (hB : Below w.heap.size w W) => nright_any p Ad Ab nd nb cd cb W hnd hnb (Kd.C_below hD hB) (Kd.C_below hP hB) hs bd bb)
  rw [← hq] at hlen
  rw [← hq] at HR
  have hL : putL p = if q = true then patE p else [] := by rw [hq]; rfl
  have hCo : putC p = if q = true then 0 else 1 := by rw [hq]; rfl
  rw [hL, hCo]
  clear hL hCo
  have HQ := Lib.hid (And.intro hq hlen)
  have HD := Lib.hid (And.intro hnd hD)
  have HP := Lib.hid (And.intro hnb hP)
  have HG := Lib.hid hG
  have HB0 := Lib.hid (And.intro bd bb)
  have HP5S := Lib.hid hs
  clear hq hlen hnd hD hnb hP hG hs bd bb
  obtain ⟨name, deps, body⟩ := p
  simp only at HD HP ⊢
  obtain ⟨w1, hw1⟩ : ∃ w1, w1 = w.alloc (.cells #[.string name, .slice Ad nd cd, .slice Ab nb cb] 25) := ⟨_, rfl⟩
  have hB1 : Below w.heap.size w w1 := by rw [hw1]; exact (Below.refl _ _).alloc (Nat.le_refl _) _
  have hb1 : w1.heap[w.heap.size]? = some (.cells #[.string name, .slice Ad nd cd, .slice Ab nb cb] 25 (0, 0)) := by rw [hw1]; exact heap_alloc_new w _
  obtain ⟨g0, g1, g2⟩ := cells3p hb1
  have gl := blk_lt hb1
  have HW := Lib.hid hw1
  have HB1 := Lib.hid (And.intro hB1 hb1)
  clear hw1 hB1 hb1
  go_enter Tryd.func9, Tryd.ntmps9
  go_wp2_with fail
  rw [← HW.out]
  go_wp2_with fail
  refine (HR.out w1 HB1.out.1).mono ?_
  rintro e w2 ⟨rfl, hB2⟩
  have HB2 := Lib.hid (And.intro (HB1.out.1.trans (hB2.mono HB1.out.1.size)) (blk_below HB1.out.2 hB2))
  clear hB2 g0 g1 g2 gl
  obtain ⟨g0, g1, g2⟩ := cells3p HB2.out.2
  have gl := blk_lt HB2.out.2
  cases q with
  | false =>
    go_wp2_with fail
    go_ret2
    exact ⟨_, rfl, BytesAt.none _, HB2.out.1⟩
  | true =>
    have HPE := Lib.hid (HQ.out.2 rfl)
    have hpe : patE ⟨name, deps, body⟩ = textsE [name] ++ (listE textE deps ++ (numI (nb : Int) ++ (body.map primE).flatten)) := by
      unfold patE textsE
      rw [← HP.out.1]
      show textE name ++ (listE textE deps ++ listE primE body) = _
      unfold listE
      simp
    have HPQ := Lib.hid hpe
    have HLEN := Lib.hid (show (textsE [name]).length + ((listE textE deps).length + ((numI (nb : Int)).length + ((body.map primE).flatten).length)) ≤ 100000000000 by
      have h := HPE.out
      rw [hpe] at h
      simpa only [List.length_append] using h)
    clear hpe
    have hst0 := wr_start w.heap.size w2 HB2.out.1.size
    obtain ⟨w3, hw3⟩ : ∃ w3, w3 = w2.alloc (.cells #[.pointer none, .slice none 0 0] 50) := ⟨_, rfl⟩
    rw [← hw3] at hst0
    have hB3 : Below w.heap.size w w3 := by rw [hw3]; exact HB2.out.1.alloc HB2.out.1.size _
    have hb3 := HB2.out.2
    have hb3' : w3.heap[w.heap.size]? = some (.cells #[.string name, .slice Ad nd cd, .slice Ab nb cb] 25 (0, 0)) := by rw [hw3]; exact (Lib.alloc_old _ _ _ (blk_lt hb3)).trans hb3
    have hsz3 : w3.heap.size = w2.heap.size + 1 := by rw [hw3]; simp
    have hbne : w.heap.size ≠ w2.heap.size := Nat.ne_of_lt gl
    obtain ⟨b, hb⟩ : ∃ b, b = w2.heap.size := ⟨_, rfl⟩
    obtain ⟨w4, hw4⟩ : ∃ w4, w4 = w3.alloc (.cells #[.string name] 9) := ⟨_, rfl⟩
    have hst4 := hst0.alloc (.cells #[.string name] 9)
    have hrow : w4.heap[w3.heap.size]? = some (.cells #[.string name] 9 (0, 0)) := by rw [hw4]; exact heap_alloc_new w3 _
    rw [← hw4] at hst4
    rw [hsz3] at hrow
    rw [← hb] at hst4 hst0 hbne hrow
    have HS := Lib.hid (And.intro hB3 (And.intro hb3' (And.intro hbne (And.intro hrow (And.intro hst4 hst0)))))
    have HE := Lib.hid (And.intro hw3 (And.intro hw4 hb))
    clear hst0 hw3 hw4 hB3 hb3 hb3' hsz3 hbne hst4 hrow hb
    have hx1 : Stays w.heap.size b w4 fun W => Kd.string.C W (some ⟨b + 1, 0, none⟩) 1 [name] := fun W k1 k2 => strs_C [name] 1 rfl (by omega) (k2 _ _ HS.out.2.2.2.1 (by simp) (fun c fz e => by cases e))
    have hGS : ∀ W0, Below w.heap.size w W0 → Stays w.heap.size b W0 Ground := fun W0 h0 W k1 k2 => HG.out.below (h0.trans k1)
    have hDS : ∀ W0, Below w.heap.size w W0 → Stays w.heap.size b W0 fun W => Kd.string.C W Ad nd deps := fun W0 h0 W k1 k2 => Kd.C_below HD.out.2 (h0.trans k1)
    have HX1 := Lib.hid hx1
    have HGS := Lib.hid hGS
    have HDS := Lib.hid hDS
    have h4 := HS.out.1.trans HS.out.2.2.2.2.1.bel
    have HB4 := Lib.hid h4
    clear hx1 hGS hDS h4
    go_wp2_with fail
    rw [← HE.out.1, ← HE.out.2.2, ← HE.out.2.1]
    refine (texts_any w.heap.size b [] (some ⟨b + 1, 0, none⟩) 1 1 [name] rfl w4 HS.out.2.2.2.2.1.bld HX1.out (by have := HLEN.out; simp only [List.nil_append]; omega) (by omega) HB4.out.size (HGS.out w4 HB4.out)).mono ?_
    rintro e w5 ⟨rfl, k1⟩
    rw [List.nil_append] at k1
    have HW5 := Lib.hid (And.intro (HB4.out.trans k1.bel) (And.intro (HS.out.2.2.2.2.1.on k1) ((HS.out.2.2.2.2.1.on k1).blk HS.out.2.1 HS.out.2.2.1 (fun c fz e => by cases e))))
    clear k1 g0 g1 g2 gl
    obtain ⟨g0, g1, g2⟩ := cells3p HW5.out.2.2
    have gl := blk_lt HW5.out.2.2
    go_wp2_with fail
    refine (wlist_any w.heap.size b (textsE [name]) Ad nd cd deps HD.out.1 w5 HW5.out.2.1.bld (HDS.out w5 HW5.out.1) (by have := HLEN.out; simp only [List.length_append]; omega) HB0.out.1 HW5.out.1.size (HGS.out w5 HW5.out.1)).mono ?_
    rintro e w6 ⟨rfl, k1⟩
    have HW6 := Lib.hid (And.intro (HW5.out.1.trans k1.bel) (And.intro (HW5.out.2.1.on k1) (k1.blk HW5.out.2.2 HS.out.2.2.1 (fun c fz e => by cases e))))
    clear k1 g0 g1 g2 gl
    obtain ⟨g0, g1, g2⟩ := cells3p HW6.out.2.2
    have gl := blk_lt HW6.out.2.2
    go_wp2_with fail
    refine (number_any w.heap.size b (textsE [name] ++ listE textE deps) (nb : Int) w6 HW6.out.2.1.bld ⟨by omega, by have := HB0.out.2; omega⟩ (by have := HLEN.out; simp only [List.length_append]; omega) HW6.out.1.size (HGS.out w6 HW6.out.1 w6 (Below.refl _ _) (Lib.OthersKept.refl _ _ _))).mono ?_
    rintro e w7 ⟨rfl, k1⟩
    have HW7 := Lib.hid (And.intro (HW6.out.1.trans k1.bel) (And.intro (HW6.out.2.1.on k1) (k1.blk HW6.out.2.2 HS.out.2.2.1 (fun c fz e => by cases e))))
    clear k1 g0 g1 g2 gl
    obtain ⟨g0, g1, g2⟩ := cells3p HW7.out.2.2
    have gl := blk_lt HW7.out.2.2
    obtain ⟨pre, hpre⟩ : ∃ l, l = textsE [name] ++ listE textE deps ++ numI (nb : Int) := ⟨_, rfl⟩
    have HPRE := Lib.hid hpre
    clear hpre
    have hbl : b < w3.heap.size := by rw [HE.out.1, HE.out.2.2]; simp
    have HBL := Lib.hid hbl
    clear hbl
    go_wp2_with fail
    go_loopw [29] (fun vi wr => ∃ i : Nat, i ≤ nb ∧ vi = .int .i64 (i : Int) ∧ Below w.heap.size w wr ∧ Wr w.heap.size b (pre ++ ((body.take i).map primE).flatten) w3 wr ∧ w3.heap.size ≤ wr.heap.size) (fun vi _ => nb - (Lib.intOf vi).toNat)
    case atStart => exact ⟨0, Nat.zero_le _, rfl, HW7.out.1, by rw [List.take_zero, HPRE.out, List.map_nil, List.flatten_nil, List.append_nil]; exact HW7.out.2.1, HW7.out.2.1.bel.size⟩
    case round =>
      obtain ⟨i, hin0, rfl, hB, hw, hsw⟩ := hrel
      have HWR := Lib.hid (And.intro hB (And.intro hw hsw))
      clear hB hw hsw g0 g1 g2 gl
      by_cases hin : i < nb
      · have hin1 : (i : Int) < (nb : Int) := by omega
        have hlt : i < body.length := by rw [HP.out.1]; exact hin
        obtain ⟨x, hx⟩ : ∃ x, body[i]? = some x := ⟨_, List.getElem?_eq_getElem hlt⟩
        obtain ⟨ad, A5, c5, A6, c6, e, z0, z1, z2, z3, z4, z5, z6, hrow⟩ := at_prm HP.out.2 i hin x hx
        subst e
        replace z0 := cell_keep HWR.out.1 z0
        replace z1 := cell_keep HWR.out.1 z1
        replace z2 := cell_keep HWR.out.1 z2
        replace z3 := cell_keep HWR.out.1 z3
        replace z4 := cell_keep HWR.out.1 z4
        replace z5 := cell_keep HWR.out.1 z5
        replace z6 := cell_keep HWR.out.1 z6
        obtain ⟨m5, hm5⟩ : ∃ m, x.f5.length = m := ⟨_, rfl⟩
        obtain ⟨m6, hm6⟩ : ∃ m, x.f6.length = m := ⟨_, rfl⟩
        rw [hm5] at z5
        rw [hm6] at z6
        have hpr : primR x = true := by
          have := (patR_parts HQ.out.1.symm).2.2.2.2
          rw [List.all_eq_true] at this
          exact this x (List.mem_of_getElem? hx)
        have hnums := primR_nums hpr
        have hnx := flat_next primE body i x hx
        have hll : (pre ++ ((body.take i).map primE).flatten).length + (primE x).length ≤ 100000000000 := by
          have h1 := flat_pre primE body (i + 1)
          rw [hnx, List.length_append] at h1
          have h2 := HLEN.out
          rw [HPRE.out]
          simp only [List.length_append]
          omega
        have hpx : primE x = numI x.f0 ++ (textsE [x.f1, x.f2, x.f3] ++ (numI x.f4 ++ (listE textE x.f5 ++ listE textE x.f6))) := by
          unfold primE textsE
          simp
        have hlx : (primE x).length = (numI x.f0).length + ((textsE [x.f1, x.f2, x.f3]).length + ((numI x.f4).length + ((listE textE x.f5).length + (listE textE x.f6).length))) := by
          rw [hpx]
          simp only [List.length_append]
        have hsz := HP5S.out x (List.mem_of_getElem? hx)
        have HX := Lib.hid (And.intro hnx (And.intro hrow (And.intro hm5 (And.intro hm6 (And.intro hnums (And.intro hll (And.intro hpx hlx)))))))
        have hb5 : m5 ≤ 1000000000 := by rw [← hm5]; exact hsz.2.2.2.1
        have hb6 : m6 ≤ 1000000000 := by rw [← hm6]; exact hsz.2.2.2.2
        have HM := Lib.hid (And.intro hb5 hb6)
        clear hx hrow hm5 hm6 hpr hnums hnx hll hpx hlx hsz hb5 hb6 hlt
        obtain ⟨L, hL⟩ : ∃ L, L = pre ++ ((body.take i).map primE).flatten := ⟨_, rfl⟩
        rw [← hL] at HX HWR
        have HL := Lib.hid hL
        clear hL
        obtain ⟨f0, f1, f2, f3, f4, f5, f6⟩ := x
        obtain ⟨wx, hwx⟩ : ∃ wx, wx = wr.alloc (.cells #[.int .i64 f0, .string f1, .string f2, .string f3, .int .i64 f4, .slice A5 m5 c5, .slice A6 m6 c6] 39) := ⟨_, rfl⟩
        have hxb : wx.heap[wr.heap.size]? = some (.cells #[.int .i64 f0, .string f1, .string f2, .string f3, .int .i64 f4, .slice A5 m5 c5, .slice A6 m6 c6] 39 (0, 0)) := by rw [hwx]; exact heap_alloc_new wr _
        have hsx := HWR.out.2.1.alloc (.cells #[.int .i64 f0, .string f1, .string f2, .string f3, .int .i64 f4, .slice A5 m5 c5, .slice A6 m6 c6] 39)
        have hbx := HWR.out.1.alloc HWR.out.1.size (.cells #[.int .i64 f0, .string f1, .string f2, .string f3, .int .i64 f4, .slice A5 m5 c5, .slice A6 m6 c6] 39)
        rw [← hwx] at hsx hbx
        have hgb : wr.heap.size ≠ b := by have := HWR.out.2.2; have := HBL.out; omega
        have HWX := Lib.hid hwx
        have HGB := Lib.hid hgb
        have HT0 := Lib.hid (And.intro hbx (And.intro hsx hxb))
        clear hwx hgb hbx hsx hxb
        go_wp2_with fail
        rw [← HWX.out]
        refine (number_any w.heap.size b L f0 wx HT0.out.2.1.bld HX.out.2.2.2.2.1.1 (by have := HX.out.2.2.2.2.2.1; omega) HT0.out.1.size (HGS.out wx HT0.out.1 wx (Below.refl _ _) (Lib.OthersKept.refl _ _ _))).mono ?_
        rintro e y1 ⟨rfl, k1⟩
        have HT1 := Lib.hid (And.intro (HT0.out.1.trans k1.bel) (And.intro (HT0.out.2.1.on k1) (k1.blk HT0.out.2.2 HGB.out (fun c fz e => by cases e))))
        clear k1 z0 z1 z2 z3 z4 z5 z6
        obtain ⟨z0, z1, z2, z3, z4, z5, z6⟩ := cells7p HT1.out.2.2
        have gl := blk_lt HT1.out.2.2
        obtain ⟨y2, hy2⟩ : ∃ y2, y2 = y1.alloc (.cells #[.string f1, .string f2, .string f3] 9) := ⟨_, rfl⟩
        have hrow : y2.heap[y1.heap.size]? = some (.cells #[.string f1, .string f2, .string f3] 9 (0, 0)) := by rw [hy2]; exact heap_alloc_new y1 _
        have hs2 := HT1.out.2.1.alloc (.cells #[.string f1, .string f2, .string f3] 9)
        have hb2 := HT1.out.1.alloc HT1.out.1.size (.cells #[.string f1, .string f2, .string f3] 9)
        have hx2 : y2.heap[wr.heap.size]? = some (.cells #[.int .i64 f0, .string f1, .string f2, .string f3, .int .i64 f4, .slice A5 m5 c5, .slice A6 m6 c6] 39 (0, 0)) := by rw [hy2]; exact (Lib.alloc_old _ _ _ gl).trans HT1.out.2.2
        rw [← hy2] at hs2 hb2
        have hgb2 : y1.heap.size ≠ b := by have := HT1.out.2.1.bel.size; have := HBL.out; omega
        have hC2 : Stays w.heap.size b y2 fun W => Kd.string.C W (some ⟨y1.heap.size, 0, none⟩) 3 [f1, f2, f3] := fun W k1 k2 => strs_C [f1, f2, f3] 3 rfl (by omega) (k2 _ _ hrow (by simpa using hgb2) (fun c fz e => by cases e))
        have HY2 := Lib.hid hy2
        have HT2 := Lib.hid (And.intro hb2 (And.intro hs2 hx2))
        have HC2 := Lib.hid hC2
        clear hy2 hrow hs2 hb2 hx2 hgb2 hC2
        go_wp2_with fail
        rw [← HY2.out]
        refine (texts_any w.heap.size b (L ++ numI f0) (some ⟨y1.heap.size, 0, none⟩) 3 3 [f1, f2, f3] rfl y2 HT2.out.2.1.bld HC2.out (by have := HX.out.2.2.2.2.2.1; have h2 := HX.out.2.2.2.2.2.2.2; simp only [List.length_append]; omega) (by omega) HT2.out.1.size (HGS.out y2 HT2.out.1)).mono ?_
        rintro e y3 ⟨rfl, k1⟩
        have HT3 := Lib.hid (And.intro (HT2.out.1.trans k1.bel) (And.intro (HT2.out.2.1.on k1) (k1.blk HT2.out.2.2 HGB.out (fun c fz e => by cases e))))
        clear k1 z0 z1 z2 z3 z4 z5 z6 gl
        obtain ⟨z0, z1, z2, z3, z4, z5, z6⟩ := cells7p HT3.out.2.2
        have gl := blk_lt HT3.out.2.2
        go_wp2_with fail
        refine (number_any w.heap.size b (L ++ numI f0 ++ textsE [f1, f2, f3]) f4 y3 HT3.out.2.1.bld HX.out.2.2.2.2.1.2 (by have := HX.out.2.2.2.2.2.1; have h2 := HX.out.2.2.2.2.2.2.2; simp only [List.length_append]; omega) HT3.out.1.size (HGS.out y3 HT3.out.1 y3 (Below.refl _ _) (Lib.OthersKept.refl _ _ _))).mono ?_
        rintro e y4 ⟨rfl, k1⟩
        have HT4 := Lib.hid (And.intro (HT3.out.1.trans k1.bel) (And.intro (HT3.out.2.1.on k1) (k1.blk HT3.out.2.2 HGB.out (fun c fz e => by cases e))))
        clear k1 z0 z1 z2 z3 z4 z5 z6 gl
        obtain ⟨z0, z1, z2, z3, z4, z5, z6⟩ := cells7p HT4.out.2.2
        have gl := blk_lt HT4.out.2.2
        have hrow := HX.out.2.1
        have hC5 : Stays w.heap.size b y4 fun W => Kd.string.C W A5 m5 f5 := fun W k1 k2 => by
          have h1 := hrow.g5
          rw [HX.out.2.2.1] at h1
          exact Kd.C_below h1 (HT4.out.1.trans k1)
        have hC6 : Stays w.heap.size b y4 fun W => Kd.string.C W A6 m6 f6 := fun W k1 k2 => by
          have h1 := hrow.g6
          rw [HX.out.2.2.2.1] at h1
          exact Kd.C_below h1 (HT4.out.1.trans k1)
        have HC5 := Lib.hid hC5
        have HC6 := Lib.hid hC6
        clear hrow hC5 hC6
        go_wp2_with fail
        refine (wlist_any w.heap.size b (L ++ numI f0 ++ textsE [f1, f2, f3] ++ numI f4) A5 m5 c5 f5 HX.out.2.2.1 y4 HT4.out.2.1.bld HC5.out (by have := HX.out.2.2.2.2.2.1; have h2 := HX.out.2.2.2.2.2.2.2; simp only [List.length_append]; omega) HM.out.1 HT4.out.1.size (HGS.out y4 HT4.out.1)).mono ?_
        rintro e y5 ⟨rfl, k1⟩
        have HT5 := Lib.hid (And.intro (HT4.out.1.trans k1.bel) (And.intro (HT4.out.2.1.on k1) (k1.blk HT4.out.2.2 HGB.out (fun c fz e => by cases e))))
        have HC6' := Lib.hid (HC6.out.on k1.bel k1.kept)
        clear k1 z0 z1 z2 z3 z4 z5 z6 gl
        obtain ⟨z0, z1, z2, z3, z4, z5, z6⟩ := cells7p HT5.out.2.2
        have gl := blk_lt HT5.out.2.2
        go_wp2_with fail
        refine (wlist_any w.heap.size b (L ++ numI f0 ++ textsE [f1, f2, f3] ++ numI f4 ++ listE textE f5) A6 m6 c6 f6 HX.out.2.2.2.1 y5 HT5.out.2.1.bld HC6'.out (by have := HX.out.2.2.2.2.2.1; have h2 := HX.out.2.2.2.2.2.2.2; simp only [List.length_append]; omega) HM.out.2 HT5.out.1.size (HGS.out y5 HT5.out.1)).mono ?_
        rintro e y6 ⟨rfl, k1⟩
        have HT6 := Lib.hid (And.intro (HT5.out.1.trans k1.bel) (HT5.out.2.1.on k1))
        clear k1 z0 z1 z2 z3 z4 z5 z6 gl
        have hb9 := HB0.out.2
        go_wp2_with fail
        refine ⟨⟨i + 1, by omega, by go_num, HT6.out.1, ?_, by have := HT6.out.2.bel.size; omega⟩, by first | (simp [Lib.intOf]; done) | (simp [Lib.intOf]; omega)⟩
        have h := HT6.out.2
        rw [HX.out.1, HX.out.2.2.2.2.2.2.1, ← List.append_assoc, ← HL.out]
        simpa only [List.append_assoc] using h
      · obtain rfl : i = nb := by omega
        have hin1 : ¬ (i : Int) < (i : Int) := by omega
        have hall : pre ++ ((body.take i).map primE).flatten = patE ⟨name, deps, body⟩ := by
          rw [List.take_of_length_le (by rw [HP.out.1]; exact Nat.le_refl _), HPQ.out, HPRE.out]
          simp only [List.append_assoc]
        rw [hall] at HWR
        clear hall
        have hne : patE ⟨name, deps, body⟩ ≠ [] := fun e0 => by
          have h1 := textE_lo name
          have h2 : (patE ⟨name, deps, body⟩).length = 0 := by rw [e0]; rfl
          unfold patE at h2
          simp only [List.length_append] at h2
          omega
        obtain ⟨N, hN⟩ : ∃ N, N = patE ⟨name, deps, body⟩ := ⟨_, rfl⟩
        rw [← hN] at hne HWR HPE
        have HNE := Lib.hid hne
        have HN := Lib.hid hN
        clear hne hN
        go_wp2_with fail
        refine (string_k w.heap.size b N wr HWR.out.2.1.bld HNE.out).mono ?_
        rintro e y1 ⟨rfl, hB1⟩
        have HY := Lib.hid (HWR.out.1.trans hB1)
        clear hB1
        have hcv := bytes_laidN y1 (baN N) (by rw [baN_size]; have := HPE.out; omega)
        obtain ⟨c, W, hrun, hcc, hR, hBW⟩ := hcv
        have hrun2 : (convert 9 26 (.string ⟨N.toArray⟩)).run Tryd.prog y1 = .ok (.slice (some ⟨y1.heap.size, 0, none⟩) (baN N).size c) W := hrun
        have HRR := Lib.hid (And.intro hcc hR)
        have HBW := Lib.hid hBW
        clear hrun hR hBW hcc
        go_wp2_with fail
        go_ret2
        refine ⟨_, rfl, ?_, HY.out.trans (HBW.out.mono HY.out.size)⟩
        rw [← HN.out]
        have hrr := HRR.out
        rw [baN_size N] at hrr
        refine ⟨_, c, ?_, hrr⟩
        rw [← baN_size N]
        rfl
end Go.Proofs.YtijfedahhgcfpaaDoor
