/- Crash. -/
import Derived.Test.YtbfpmlblnfablaaDiskQ
set_option linter.unusedVariables false
set_option linter.unusedSimpArgs false
namespace Go.Proofs.Ytbfpmlblnfablaa
open Go.RowKit Go.Proofs.YtbfpmlblnfablaaW.PrintWords Go.Proofs.YtbfpmlblnfablaaW.PrintLast Go.Proofs.YtbfpmlblnfablaaW.PrintMore
attribute [local go_sem] max_two

/-- The files, behind those changes that are kept. -/
def crashF : Files → List Chg → List Bool → Files
  | fs, c :: cs, k :: ks => crashF (if k = true then appl fs c else fs) cs ks
  | fs, _, _ => fs
theorem crashF_nil (fs : Files) (ks : List Bool) : crashF fs [] ks = fs := by cases ks <;> rfl
theorem crashF_none (fs : Files) : ∀ cs : List Chg, crashF fs cs [] = fs
  | [] => rfl
  | _ :: _ => rfl
def keptAt (ks : List Bool) (i : Nat) : Bool := ks.getD i false
theorem crashF_take (c : Chg) : ∀ (cs : List Chg) (fs : Files) (ks : List Bool) (i : Nat), cs[i]? = some c → crashF fs (cs.take (i + 1)) ks = if keptAt ks i = true then appl (crashF fs (cs.take i) ks) c else crashF fs (cs.take i) ks
  | [], _, _, _, h => by simp at h
  | c' :: cs, fs, [], i, h => by
    rw [crashF_none, crashF_none]
    simp [keptAt]
  | c' :: cs, fs, k :: ks, 0, h => by
    simp at h
    subst h
    simp [crashF, crashF_nil, keptAt]
  | c' :: cs, fs, k :: ks, i + 1, h => by
    have := crashF_take c cs (if k = true then appl fs c' else fs) ks i (by simpa using h)
    simp only [List.take_succ_cons, crashF]
    rw [this]
    simp [keptAt]
theorem length_crash : ∀ (cs : List Chg) (fs : Files) (ks : List Bool), (crashF fs cs ks).length ≤ fs.length + cs.length
  | [], fs, ks => by rw [crashF_nil]; simp
  | c :: cs, fs, [] => by rw [crashF_none]; omega
  | c :: cs, fs, k :: ks => by
    have := length_crash cs (if k = true then appl fs c else fs) ks
    rw [crashF]
    have h2 : (if k = true then appl fs c else fs).length ≤ fs.length + 1 := by
      split
      · exact length_appl fs c
      · omega
    rw [List.length_cons]
    omega
def crashD (d : D) (keep : List Bool) : D := { d with now := crashF d.old d.ch keep, old := crashF d.old d.ch keep, ch := [], fuse := -1, down := false }
theorem not_map_cell {w : World} {m : Nat} {vs : List (ByteArray × Value)} (h : OwnM w m vs) {p : Addr} {v : Value} (hc : w.cell? p = some v) : p.block ≠ m := by
  obtain ⟨es, clock, h1, _⟩ := h
  rintro rfl
  unfold World.cell? at hc
  rw [h1] at hc
  cases hc
/-- A row of bools stays readable while a map turns. -/
theorem bools_stay {w w' : World} {S : Nat → Prop} {A : Option Addr} {n : Nat} {ks : List Bool} (h : Kd.C Kd.bool w A n ks) (k : ∀ p v, w.cell? p = some v → w'.cell? p = some v) : Kd.C Kd.bool w' A n ks := by
  refine ⟨h.1, h.2.1, fun hn => ?_⟩
  obtain ⟨ad, e, hc⟩ := h.2.2 hn
  refine ⟨ad, e, fun j t hj => ?_⟩
  obtain ⟨c, hl, hr, hcell⟩ := hc j t hj
  exact ⟨c, hl, hr, fun i u hu => k _ _ (hcell i u hu)⟩
theorem at_fn {w : World} {A : Option Addr} {n : Nat} {xs : List FnV} (h : kFn.C w A n xs) (i : Nat) (x : FnV) (hx : xs[i]? = some x) : ∃ ad, A = some ad ∧ w.cell? (ad.add i) = some (encFn x) := by
  have hi : i < n := by rw [← h.1]; exact (List.getElem?_eq_some_iff.1 hx).1
  obtain ⟨ad, c, e, _, hK, hc⟩ := Kd.C_get h x (i : Int) (by omega) (by omega)
  refine ⟨ad, e, ?_⟩
  have hg : xs.getD (i : Int).toNat x = x := by simp [List.getD_eq_getElem?_getD, hx]
  rw [hg] at hK
  have hK' : c = [encFn x] := hK
  have := hc 0 (encFn x) (by rw [hK']; rfl)
  simpa [show kFn.sz = 1 from rfl] using this
theorem fn_enters {w : World} {S : Nat → Prop} {f : Nat} {cap : Array Value} {c : Chg} (h : FnAt w S (f, cap) c) : ∀ args w, (callFunc f args).run Try.prog w = .ok (.enter f args) w := by
  rcases h.2.2 with ⟨_, _, _, _, e, _⟩ | ⟨_, _, _, e, _⟩ | ⟨_, _, e, _⟩
  · obtain ⟨rfl, _⟩ := Prod.mk.inj e; exact enters_w2
  · obtain ⟨rfl, _⟩ := Prod.mk.inj e; exact enters_n2
  · obtain ⟨rfl, _⟩ := Prod.mk.inj e; exact enters_m2
set_option maxRecDepth 100000 in
set_option maxHeartbeats 4000000 in
theorem crash_any (w : World) (base g : Nat) (S : Nat → Prop) (d : D) (h : DiskAt w base g S d) (hsm : Small d) (Ak : Option Addr) (nk ck : Nat) (ks : List Bool) (hk : ks.length = nk) (hC : Kd.C Kd.bool w Ak nk ks) :
    Calls Try.prog 16 #[pt g, .slice Ak nk ck] w fun r w' => r = .returned (.tuple #[]) ∧ DiskStep w w' base g S (crashD d ks) := by
  obtain ⟨bn, bs, vc, cs, Sc, hc, hp⟩ := h.row
  have hgl := h.glt
  obtain ⟨Ac, cc, rfl, hcc, hCc⟩ := Kd.R_reads hp.row
  have hlen := hp.fns.length
  obtain ⟨m, hm⟩ : ∃ m, m = cs.length := ⟨_, rfl⟩
  obtain ⟨_, _, _, c3, _, _, _⟩ := cells7 hc
  rw [← hm] at c3 hCc hlen
  have hml : m ≤ 1000000 := by rw [hlen]; exact hsm.ch
  have HH := Lib.hid h
  have HC0 := Lib.hid hc
  have HP := Lib.hid hp
  have HSM := Lib.hid hsm
  have HK := Lib.hid hk
  have HCK := Lib.hid hC
  have HM := Lib.hid (And.intro hm hlen)
  have hnk : nk ≤ 9223372036854775807 := hC.2.1
  have hbase : base ≤ w.heap.size := by have := h.lt g h.own; omega
  clear h hc hp hsm hk hC hm hlen hcc hCc
  go_enter Try.func16, Try.ntmps16
  go_wp2_with fail
  go_loopw [11] (fun v wr => ∃ i : Nat, v = .int .i64 (i : Int) ∧ i ≤ m ∧ Parts wr base g S bn bs (.slice Ac cs.length cc) cs Sc d.now (crashF d.old (d.ch.take i) ks) d.ch ∧ DiskCells wr g d bn bs (.slice Ac cs.length cc) ∧ Turns S w wr ∧ Kd.C Kd.bool wr Ak nk ks) (fun v _ => m - (Lib.intOf v).toNat)
  case atStart => exact ⟨0, rfl, Nat.zero_le _, HP.out, HC0.out, Turns.refl _ _, HCK.out⟩
  case round =>
    obtain ⟨i, rfl, him, hp, hc, hT, hC⟩ := hrel
    by_cases hi : i < m
    · obtain ⟨c, hcd⟩ : ∃ c, d.ch[i]? = some c := ⟨_, List.getElem?_eq_getElem (by rw [← HM.out.2]; exact hi)⟩
      obtain ⟨⟨f, cap⟩, hcx, hfn⟩ := hp.fns.get hcd
      have eg := fn_enters hfn
      obtain ⟨ad, e, hcell⟩ := at_fn (Kd.R_reads' hp.row).2.2 i _ hcx
      obtain ⟨_, _, c2, _, _, _, _⟩ := cells7 hc
      have hi' : (i : Int) < (m : Int) := by omega
      have hstep := crashF_take c d.ch d.old ks i hcd
      have HPr := Lib.hid hp
      have HCr := Lib.hid hc
      have HTr := Lib.hid hT
      have HKr := Lib.hid hC
      have HF := Lib.hid hfn
      have HST := Lib.hid hstep
      have HI := Lib.hid hi
      clear hp hc hT hC hfn hstep hcx hcd him hi
      subst e
      have hcell' : wr.cell? (ad.add i) = some (.func (.func f) #[] cap) := hcell
      clear hcell
      cases hkp : keptAt ks i with
      | false =>
        have HKP := Lib.hid hkp
        rw [hkp] at HST
        clear hkp
        have HST2 := Lib.hid (HST.out.trans (if_neg (by simp)))
        clear HST
        by_cases hik : i < nk
        · have hik' : (i : Int) < (nk : Int) := by omega
          obtain ⟨ak, e, hck⟩ := Kd.at_bool HKr.out (i : Int) (by omega) (by omega)
          subst e
          have e2 : rdOf false ks (i : Int) = false := HKP.out
          rw [e2] at hck
          have hck' : wr.cell? (ak.add i) = some (.bool false) := hck
          clear hck e2
          go_wp2_with fail
          go_roundw
          case rel => exact ⟨i + 1, by simp, by have := HI.out; omega, by rw [HST2.out]; exact HPr.out, HCr.out, HTr.out, HKr.out⟩
          case measure => simp [Lib.intOf]; have := HI.out; omega
        · have hik' : ¬ (i : Int) < (nk : Int) := by omega
          go_wp2_with fail
          go_roundw
          case rel => exact ⟨i + 1, by simp, by have := HI.out; omega, by rw [HST2.out]; exact HPr.out, HCr.out, HTr.out, HKr.out⟩
          case measure => simp [Lib.intOf]; have := HI.out; omega
      | true =>
        have HKP := Lib.hid hkp
        rw [hkp] at HST
        clear hkp
        have HST2 := Lib.hid (HST.out.trans (if_pos rfl))
        clear HST
        have hik : i < nk := by
          rcases Nat.lt_or_ge i nk with h | h
          · exact h
          · exfalso
            have := HKP.out
            unfold keptAt at this
            rw [List.getD_eq_getElem?_getD, List.getElem?_eq_none (by rw [HK.out]; exact h)] at this
            simp at this
        have hik' : (i : Int) < (nk : Int) := by omega
        obtain ⟨ak, e, hck⟩ := Kd.at_bool HKr.out (i : Int) (by omega) (by omega)
        subst e
        have e2 : rdOf false ks (i : Int) = true := HKP.out
        rw [e2] at hck
        have hck' : wr.cell? (ak.add i) = some (.bool true) := hck
        clear hck e2
        go_wp2_with fail
        refine (do_any wr S bs _ f cap c HF.out HPr.out.old HPr.out.ss (by
          have h1 := length_crash (d.ch.take i) d.old ks
          have h2 : (d.ch.take i).length ≤ d.ch.length := by rw [List.length_take]; omega
          have h3 := HSM.out.old
          have h4 := HSM.out.ch
          unfold maxLen
          omega)).mono ?_
        rintro r w2 ⟨rfl, hm2, ht2⟩
        obtain ⟨vs2, ho2, _⟩ := id HPr.out.old
        have hp2 := HPr.out.mapped2 ht2 hm2
        have hc2 : DiskCells w2 g d bn bs (.slice (some ad) cs.length cc) := (ht2.grown.block g (blk_lt HCr.out) (fun e => hp2.ne.2.2 (by cases e; rfl))).trans HCr.out
        have hT2 := HTr.out.turned ht2 (.inl hp2.ss)
        have hC2 : Kd.C Kd.bool w2 (some ak) nk ks := bools_stay (S := S) HKr.out (fun p v hc => ht2.grown.cell hc (fun e => not_map_cell ho2 hc (by cases e; rfl)))
        have H2 := Lib.hid (And.intro hp2 (And.intro hc2 (And.intro hT2 hC2)))
        clear hp2 hc2 hT2 hC2 hm2 ht2 ho2
        go_wp2_with fail
        go_roundw
        case rel => exact ⟨i + 1, by simp, by have := HI.out; omega, by rw [HST2.out]; exact H2.out.1, H2.out.2.1, H2.out.2.2.1, H2.out.2.2.2⟩
        case measure => simp [Lib.intOf]; have := HI.out; omega
    · have hie : i = m := by omega
      subst hie
      have hi' : ¬ (i : Int) < (i : Int) := by omega
      have htk : d.ch.take i = d.ch := by rw [HM.out.2]; exact List.take_length
      rw [htk] at hp
      obtain ⟨vs, hown, h2⟩ := id hp.old
      obtain ⟨_, _, c2, _, _, _, _⟩ := cells7 hc
      have hg2 : g < wr.heap.size := blk_lt hc
      have HPr := Lib.hid hp
      have HCr := Lib.hid hc
      have HTr := Lib.hid hT
      have HOr := Lib.hid (And.intro hown h2)
      clear hp hc hT hC hown h2 htk him hi
      go_wp2_with fail
      refine (clone_map wr bs vs HOr.out.1).mono ?_
      rintro r w3 ⟨rfl, ho3, hB3⟩
      have hc3 := (hB3.block g hg2).trans HCr.out
      have HC3 := Lib.hid hc3
      obtain ⟨_, c1, _, c3', _, c5, c6⟩ := cells7 hc3
      have q1 := blk_frozen hc3 1
      have q3 := blk_frozen hc3 3
      have q5 := blk_frozen hc3 5
      have q6 := blk_frozen hc3 6
      have hg3 : g < w3.heap.size := blk_lt hc3
      have HO3 := Lib.hid ho3
      have HB3 := Lib.hid hB3
      clear ho3 hB3 hc3
      go_wp2_with fail
      go_end0
      obtain ⟨w4, hw4⟩ : ∃ w4, w4 = ((((w3.setCell ⟨g, 1, none⟩ (.map (some wr.heap.size))).setCell ⟨g, 3, none⟩ (.slice none 0 0)).setCell ⟨g, 5, none⟩ (.int .i64 (-1))).setCell ⟨g, 6, none⟩ (.bool false)) := ⟨_, rfl⟩
      rw [← hw4]
      have hp := HPr.out
      have h2 := HOr.out.2
      have hz := HB3.out.size
      have h23 := HTr.out.size
      have hlt := HO3.out.lt
      have hgw := hgl
      have hzz : w4.heap.size = w3.heap.size := by rw [hw4]; simp [World.setCell]
      have kT : Turns (fun k => k = g) w3 w4 := by
        rw [hw4]
        exact ((((Turns.refl (fun k => k = g) w3).set (p := ⟨g, 1, none⟩) (.inl rfl) _).set (p := ⟨g, 3, none⟩) (.inl rfl) _).set (p := ⟨g, 5, none⟩) (.inl rfl) _).set (p := ⟨g, 6, none⟩) (.inl rfl) _
      have kT2 : Turns (fun k => k = g) wr w4 := (Turns.of_below HB3.out (fun k => k = g)).trans kT (fun _ h => .inl h)
      have hgS : ∀ i, i = g → S i := fun i e => by subst e; exact HH.out.own
      have hsub : ∀ i, (S i ∨ i = wr.heap.size) → S i ∨ wr.heap.size ≤ i := fun i hi => by
        rcases hi with h | h
        · exact .inl h
        · exact .inr (by omega)
      refine ⟨rfl, fun k => S k ∨ k = wr.heap.size, ⟨⟨wr.heap.size, bs, .slice none 0 0, [], fun _ => False, ?_, ⟨?_, ?_, ?_, ?_, ?_, ?_, ?_, ?_⟩⟩, ?_, ?_⟩, ?_, ?_⟩
      · have hc3 := HC3.out
        unfold DiskCells at hc3 ⊢
        rw [hw4, blk_set (blk_set (blk_set (blk_set hc3 1 _) 3 _) 5 _) 6]
        rfl
      · refine (MapAt.cloned (S' := fun k => S k ∨ k = wr.heap.size) h2 HB3.out HO3.out hsub).step kT (fun e => ?_) (fun i e => .inl (hgS i e)) (fun _ h => .inl h)
        omega
      · exact hp.old.step kT2 (fun e => hp.ne.2.2 e.symm) hgS hsub
      · exact Kd.R_nil _ _ _ _ _
      · trivial
      · exact fun k hk => hk.elim
      · exact .inr rfl
      · exact .inl hp.ss
      · have := hp.old.lt
        exact ⟨by omega, by omega, hp.ne.2.2⟩
      · intro j hj
        rw [hzz]
        rcases hj with h | h
        · have := HH.out.lt j h
          exact ⟨by omega, this.2⟩
        · exact ⟨by omega, by omega⟩
      · exact .inl HH.out.own
      · intro k hk
        rcases hk with h | h
        · exact .inl h
        · exact .inr (by omega)
      · exact HTr.out.trans (kT2.mono (S' := S) (fun i hi => .inl (hgS i hi))) (fun _ h => .inl h)
end Go.Proofs.Ytbfpmlblnfablaa
