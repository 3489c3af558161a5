/- Files' walk; Same of alike files. -/
import Derived.Test.YtbfpmlblnfablaaDiskE
set_option linter.unusedVariables false
set_option linter.unusedSimpArgs false
namespace Go.Proofs.Ytbfpmlblnfablaa
open Go.RowKit Go.Proofs.YtbfpmlblnfablaaW.PrintWords Go.Proofs.YtbfpmlblnfablaaW.PrintLast Go.Proofs.YtbfpmlblnfablaaW.PrintMore

theorem infoFile : (Try.prog.info? 49).map (fun i => (i.zero, i.size, i.bytes)) = some (some (.agg #[.string ByteArray.empty, .slice none 0 0]), 2, 40) := by kernel_rfl
theorem kFile_mkM {w : World} {base : Nat} {ok : Nat → Prop} {s : ByteArray} {v : Value} {t : List Int} (h : Kd.R (Kd.int .u8) 5 w base ok v t) : kFile.M w base ok (s, t) [.string s, v] := ⟨[.string s], [v], rfl, rfl, ⟨v, rfl, h⟩⟩
theorem at_name {w : World} {A : Option Addr} {n : Nat} {xs : List ByteArray} (h : Kd.string.C w A n xs) (i : Nat) (s : ByteArray) (hs : xs[i]? = some s) : ∃ ad, A = some ad ∧ w.cell? (ad.add i) = some (.string s) := by
  have hi : i < n := by rw [← h.1]; exact (List.getElem?_eq_some_iff.1 hs).1
  obtain ⟨ad, c, e, _, hK, hc⟩ := Kd.C_get h s (i : Int) (by omega) (by omega)
  refine ⟨ad, e, ?_⟩
  have hg : xs.getD (i : Int).toNat s = s := by simp [List.getD_eq_getElem?_getD, hs]
  rw [hg] at hK
  have hK' : c = [.string s] := hK
  have := hc 0 (.string s) (by rw [hK']; rfl)
  simpa [show Kd.string.sz = 1 from rfl] using this
theorem own_ok {α : Type} {d : Kd α} {t : TypeId} {w : World} {base : Nat} {ok : Nat → Prop} {v : Value} {xs : List α} (h : d.R t w base ok v xs) : ∀ k, v.ownBlock = some k → ok k := h.1
theorem look_at : ∀ {fs : Files} {i : Nat} {x : ByteArray × List Int}, fs.Pairwise (fun x y => x.1 ≠ y.1) → fs[i]? = some x → look fs x.1 = some x.2
  | [], i, x, _, h => by simp at h
  | y :: r, 0, x, _, h => by
    simp at h
    subst h
    unfold look
    simp
  | y :: r, i + 1, x, hp, h => by
    obtain ⟨h1, h2⟩ := List.pairwise_cons.1 hp
    have h' : r[i]? = some x := by simpa using h
    have hne : y.1 ≠ x.1 := h1 x (List.mem_of_getElem? h')
    have := look_at h2 h'
    unfold look at this ⊢
    rw [List.find?_cons]
    simpa [hne] using this
theorem files_apart {w : World} {S : Nat → Prop} {vs : List (ByteArray × Value)} {fs : Files} (h2 : All2 (FileRow w S) vs fs) (h : vs.Pairwise (fun x y => x.1 ≠ y.1)) : fs.Pairwise (fun x y => x.1 ≠ y.1) := by
  induction vs generalizing fs with
  | nil => cases fs with | nil => exact List.Pairwise.nil | cons _ _ => exact h2.elim
  | cons a vs ih =>
    cases fs with
    | nil => exact h2.elim
    | cons b fs =>
      obtain ⟨k1, k2⟩ := List.pairwise_cons.1 h
      refine List.pairwise_cons.2 ⟨fun y hy => ?_, ih h2.2 k2⟩
      obtain ⟨i, hi⟩ := List.getElem?_of_mem hy
      obtain ⟨a', ha', hr⟩ := All2.get h2.2 hi
      rw [← h2.1.1, ← hr.1]
      exact k1 a' (List.mem_of_getElem? ha')
theorem names_eq {w : World} {S : Nat → Prop} : ∀ {vs : List (ByteArray × Value)} {fs : Files}, All2 (FileRow w S) vs fs → (vs.map fun x => x.1) = fs.map fun x => x.1
  | [], [], _ => rfl
  | _ :: _, _ :: _, h => by rw [List.map_cons, List.map_cons, h.1.1, names_eq h.2]
set_option maxRecDepth 100000 in
set_option maxHeartbeats 4000000 in
theorem files_any (w : World) (base g : Nat) (S : Nat → Prop) (d : D) (h : DiskAt w base g S d) (hsm : Small d) :
    Calls Try.prog 26 #[pt g] w fun r w' => ∃ v, r = .returned v ∧ kFile.R 49 w' w.heap.size (fun _ => True) v d.now ∧ Below w.heap.size w w' := by
  obtain ⟨bn, bs, vc, cs, Sc, hc, hp⟩ := h.row
  obtain ⟨vs, hown, h2⟩ := hp.now
  have hgl := h.glt
  obtain ⟨_, c1, _, _, _, _, _⟩ := cells7 hc
  have hlen := h2.length
  have hnl := hsm.now
  have hap := files_apart h2 (own_apart hown)
  have hnm := names_eq h2
  obtain ⟨m, hm⟩ : ∃ m, m = d.now.length := ⟨_, rfl⟩
  rw [← hm] at hnl
  have hks := keys_any bn w
  have hso := sorted_any w bn vs hown (by rw [hlen, ← hm]; exact hnl)
  rw [hnm] at hso
  have HA := Lib.hid (And.intro hap (And.intro hm hlen))
  have HO := Lib.hid hown
  have H2 := Lib.hid h2
  have HEA := Lib.hid hsm.each.1
  have HK := Lib.hid hks
  have HSO := Lib.hid hso
  have HC := Lib.hid hc
  clear h hc hp hown h2 hsm hap hlen hnm hm hks hso
  go_enter Try.func26, Try.ntmps26
  go_wp2_with fail
  refine HK.out.mono ?_
  rintro e w1 ⟨rfl, e1⟩
  rw [e1]
  clear e1 w1
  go_wp2_with fail
  refine HSO.out.mono ?_
  rintro e w2 ⟨v2, rfl, hR2, hB2⟩
  obtain ⟨A2, cc2, rfl, hcc2, hC2⟩ := Kd.R_reads hR2
  rw [List.length_map] at hcc2 hC2
  rw [List.length_map, ← HA.out.2.1]
  rw [← HA.out.2.1] at hC2
  have HC2 := Lib.hid hC2
  have HB2 := Lib.hid hB2
  clear hR2 hB2 hC2 hcc2
  go_wp2_with fail
  go_loopw [3, 13] (fun vo vi wr => ∃ i : Nat, vi = .int .i64 (i : Int) ∧ i ≤ m ∧ kFile.R 49 wr w.heap.size (fun k => w2.heap.size ≤ k) vo (d.now.take i) ∧ Below w.heap.size w wr ∧ Below w2.heap.size w2 wr) (fun _ vi _ => m - (Lib.intOf vi).toNat)
  case atStart => exact ⟨0, rfl, Nat.zero_le _, by rw [List.take_zero]; exact Kd.R_nil _ _ _ _ _, HB2.out, Below.refl _ _⟩
  case round =>
    obtain ⟨i, rfl, hi, hR, hB, hBs⟩ := hrel
    by_cases hin : i < m
    · have d1 : (i : Int) < (m : Int) := by omega
      obtain ⟨x, hx⟩ : ∃ x, d.now[i]? = some x := ⟨_, List.getElem?_eq_getElem (by rw [← HA.out.2.1]; exact hin)⟩
      obtain ⟨ad, e, hcell⟩ := at_name (Kd.C_below HC2.out hBs) i x.1 (by rw [List.getElem?_map, hx]; rfl)
      subst e
      obtain ⟨nm, hnm⟩ : ∃ s, s = x.1 := ⟨_, rfl⟩
      obtain ⟨nd, hnd⟩ : ∃ k, k = x.2.length := ⟨_, rfl⟩
      rw [← hnm] at hcell
      have hlk := look_at HA.out.1 hx
      have h2r : All2 (FileRow wr S) vs d.now := H2.out.imp (fun _ _ h => h.step (Turns.of_below hB S) (fun _ h => .inl h))
      obtain ⟨hq, Ao, co, hgo, hco, hCo⟩ := look_row h2r nm
      rw [hnm, hlk] at hgo hco hCo
      simp only [Option.getD_some] at hgo hco hCo
      rw [← hnm, ← hnd] at hgo
      rw [← hnd] at hco
      have hmem := List.mem_of_getElem? hx
      have gnd : nd ≤ 65536 := by rw [hnd]; exact HEA.out x hmem
      have hownr : OwnM wr bn vs := own_move HO.out (hB.block bn (OwnM.lt HO.out))
      have gnm : nm.size ≤ maxLen := by
        obtain ⟨a', ha', hr⟩ := All2.get h2r hx
        obtain ⟨es, clock, h1, F, h3, h4⟩ := hownr
        have hmem' : entW a' ∈ vs.map entW := List.mem_map.2 ⟨a', List.mem_of_getElem? ha', rfl⟩
        have h4' : vs.map entW = (es.toList.map (WideElems.rg Try.prog 9 rdSl)).foldr DataW.insert [] := DataW.map.inj h4
        rw [h4'] at hmem'
        obtain ⟨e1, he1, he2⟩ := List.mem_map.1 (mem_sorted.1 hmem')
        obtain ⟨y, hy⟩ := F.reads e1 he1
        have hk := WideElems.rd_key hy
        rw [WideElems.rg_of hy] at he2
        have hu := Try.underlying9
        have hkey : y.1 = Lit.string a'.1.data.toList := congrArg Prod.fst he2
        rw [hkey] at hk
        cases hek : e1.key <;> rw [hek] at hk <;> simp [keyOf, mapKey, hu] at hk
        rename_i s'
        have hs' : s' = a'.1 := bytes_inj (by simpa using hk.2)
        rw [hnm, ← hr.1, ← hs']
        exact hk.1
      have hl1 : (Instr.lookup 63 (.map (some bn)) (.string nm) false).run Try.prog wr = .ok (.slice Ao nd co) wr := by
        have h3 := OwnM.look1 hownr gnm
        rw [hgo] at h3
        exact h3
      have hcr := (hB.block g hgl).trans HC.out
      obtain ⟨_, c1r, _, _, _, _, _⟩ := cells7 hcr
      have hcl := clone_any Ao co x.2 wr hCo (by rw [← hnd]; exact hco) (by rw [← hnd]; omega)
      rw [← hnd] at hcl
      obtain ⟨Av, cv, ev, _, _⟩ := Kd.R_reads hR
      have htl : (d.now.take i).length = i := by rw [List.length_take, ← HA.out.2.1]; omega
      rw [htl] at ev
      subst ev
      have hgr := blk_lt hcr
      have HRr := Lib.hid hR
      have HBr := Lib.hid (And.intro hB hBs)
      have HCL := Lib.hid hcl
      have HX := Lib.hid (And.intro hx (And.intro hnm hnd))
      have HTL := Lib.hid htl
      clear hR hB hBs hcl hx hnm hnd hownr h2r hq hgo hco hCo hlk hcr hmem htl
      go_wp2_with (first
        | (at_lookup; fail)
        | fail)
      refine HCL.out.mono ?_
      rintro e w5 ⟨v5, rfl, hR5, hB5⟩
      obtain ⟨A5, c5, e5⟩ := Kd.R_slice hR5
      rw [← HX.out.2.2] at e5
      subst e5
      have HR5 := Lib.hid hR5
      have HB5 := Lib.hid hB5
      clear hR5 hB5 hcell hl1 c1r
      go_wp2_with (at_builtin; refine Kd.R_append kFile (w0 := w) (W := w5) w.heap.size rfl _ _ 45 49 (.agg #[.string ByteArray.empty, .slice none 0 0]) 40 rfl Try.underlying45 infoFile rfl (by decide) (by decide) (.slice Av i cv) (d.now.take i) (nm, x.2) [.string nm, .slice A5 nd c5] (fun k => w2.heap.size ≤ k) (fun k => wr.heap.size ≤ k) rfl rfl ?hp ?hokp ?hfresh ?HO ?HBB ?hb2 ?hl2 ?hk2)
      case hp => exact kFile_mkM (Kd.R_lower (Kd.R_mono (Kd.R_bound HR5.out) (fun k hk => hk.2.1)) HBr.out.1.size)
      case hokp =>
        intro k hk
        have hk' : wr.heap.size ≤ k := hk
        refine ⟨by have := HBr.out.2.size; omega, fun e' => ?_⟩
        have := Kd.R_lt HRr.out k e'.symm
        omega
      case hfresh =>
        intro k hk
        have h1 := HBr.out.2.size
        have h2 := HB5.out.size
        show w2.heap.size ≤ k
        omega
      case HO => exact Kd.R_below HRr.out HB5.out
      case HBB => exact HBr.out.1.trans (HB5.out.mono HBr.out.1.size)
      case hb2 => have h1 := HBr.out.1.size; have h2 := HB5.out.size; omega
      case hl2 => rw [HTL.out]; omega
      case hk2 =>
        intro v1 w6 hR6 hB6 hg6 _
        obtain ⟨A6, c6, rfl⟩ := Kd.R_slice hR6
        have htk : d.now.take (i + 1) = d.now.take i ++ [(nm, x.2)] := by
          rw [List.take_add_one, HX.out.1, HX.out.2.1]
          rfl
        have hB26 : Below w2.heap.size w2 w6 := by
          have h1 : Below w2.heap.size w2 w5 := HBr.out.2.trans (HB5.out.mono HBr.out.2.size)
          refine h1.grown hg6 h1.size (fun k hk => ?_)
          exact own_ok HRr.out k hk
        have HEND := Lib.hid (And.intro (show kFile.R 49 w6 w.heap.size (fun k => w2.heap.size ≤ k) (.slice A6 (d.now.take i ++ [(nm, x.2)]).length c6) (d.now.take (i + 1)) by rw [htk]; exact hR6) (And.intro hB6 hB26))
        clear hR6 hB6 hg6 htk hB26
        go_wp2_with fail
        refine ⟨⟨i + 1, by simp, by omega, HEND.out.1, HEND.out.2.1, HEND.out.2.2⟩, ?_⟩
        simp [Lib.intOf]
        omega
    · have hie : i = m := by omega
      have d1 : ¬ (i : Int) < (m : Int) := by omega
      have HE := Lib.hid (And.intro (show kFile.R 49 wr w.heap.size (fun _ => True) u3 d.now by
        have h := Kd.R_mono hR (ok' := fun _ => True) (fun _ _ => trivial)
        rw [hie, HA.out.2.1, List.take_length] at h
        exact h) hB)
      clear hR hB hBs hie
      go_wp2_with fail
      go_ret
      exact ⟨_, rfl, HE.out.1, HE.out.2⟩
end Go.Proofs.Ytbfpmlblnfablaa
