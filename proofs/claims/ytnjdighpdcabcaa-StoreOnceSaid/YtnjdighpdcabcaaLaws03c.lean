/- StoreOnce. -/
import Derived.Test.YtnjdighpdcabcaaSt
set_option linter.unusedVariables false
set_option linter.unusedSimpArgs false
namespace Go.Proofs.Ytnjdighpdcabcaa
open Go.RowKit Go.Proofs.YtnjdighpdcabcaaW.PrintWords Go.Proofs.YtnjdighpdcabcaaW.PrintLast Go.Proofs.YtnjdighpdcabcaaW.PrintMore

def goodT (l : List (List Int)) : Prop := l.length * 24 ≤ 140737488351232 ∧ ∀ x ∈ l, goodB x
abbrev kTs : Kd (List (List Int)) := Kd.slice 32 kT
theorem opens_texts : Opens Try.prog 33 kTs goodT :=
  Opens.slice Try.underlying33 (by kernel_rfl) (B := 24) (by kernel_rfl) opens_bytes
theorem texts_open {w : World} {l : List (List Int)} {A : Option Addr} {n c : Nat} (h : kTs.K w l [.slice A n c]) : n = l.length ∧ n ≤ c ∧ Kd.C kT w A n l := by
  obtain ⟨A', c', e, l', hr⟩ := h
  injection e with e _
  injection e with a b c
  subst a b c
  exact ⟨rfl, l', hr⟩
theorem at_text {w : World} {A : Option Addr} {n : Nat} {xs : List (List Int)} (h : Kd.C kT w A n xs) (k : Nat) (hk : k < n) (x : List Int) (hx : xs[k]? = some x) : ∃ ad Ab cb, A = some ad ∧ w.cell? (ad.add k) = some (.slice Ab x.length cb) ∧ x.length ≤ cb ∧ Kd.C (Kd.int .u8) w Ab x.length x := by
  obtain ⟨ad, c, e, _, hK, hc0⟩ := Kd.C_get h x (k : Int) (by omega) (by omega)
  rw [Int.toNat_natCast] at hK hc0
  rw [show xs.getD k x = x from by rw [List.getD_eq_getElem?_getD, hx]; rfl] at hK
  obtain ⟨Ab, cb, h2, l2, g2⟩ := hK
  subst h2
  have := hc0 0 _ rfl
  exact ⟨ad, Ab, cb, e, by simpa [show kT.sz = 1 from rfl] using this, l2, g2⟩
def goodK (l : List Bool) : Prop := l.length * 1 ≤ 140737488351232 ∧ ∀ x ∈ l, True
theorem opens_keep : Opens Try.prog 34 (Kd.slice 4 Kd.bool) goodK :=
  Opens.slice Try.underlying34 (by kernel_rfl) (B := 1) (by kernel_rfl) (Opens.bool Try.underlying4)
theorem keep_open {w : World} {l : List Bool} {A : Option Addr} {n c : Nat} (h : (Kd.slice 4 Kd.bool).K w l [.slice A n c]) : n = l.length ∧ n ≤ c ∧ Kd.C Kd.bool w A n l := by
  obtain ⟨A', c', e, l', hr⟩ := h
  injection e with e _
  injection e with a b c
  subst a b c
  exact ⟨rfl, l', hr⟩
theorem wf_of {l : List Int} (h : ∀ x ∈ l, (Lit.int .u8 x).wf = true) : Wf l := fun x hx => by
  have := h x hx
  simp [Lit.wf, IntKind.min, IntKind.max, IntKind.bits, IntKind.signed] at this
  omega
/-- Old bytes are put, and are the root. -/
theorem once_first (old : List Int) (hw : Wf old) (hl : old.length ≤ 1000) : ∃ (d0 d1 d2 : D) (A : ByteArray), newD 1048576 = d0 ∧ (putE d0 old = 0 ∧ putD d0 old = d1 ∧ putN d0 old = A) ∧ (setE d1 A = 0 ∧ setD d1 A = d2) ∧ PD A old d2 ∧ A = nameL old ∧ InvD 0 d0 ∧ InvD 1 d1 ∧ InvD 6 d2 := by
  have hn := named_nameL old
  have h0 : readE (newD 1048576) (fileN (nameL old)) = 12 := by unfold readE newD look; simp
  have hw0 : wrE (newD 1048576) (fileN (nameL old)) old.length = 0 := wrE_ok (right_file hn) (by omega) (by decide) (by
    show (old.length : Int) ≤ 1048576 - 0 + 0
    omega)
  obtain ⟨w1, w2⟩ := write_ok (d := newD 1048576) rfl hw0
  have e1 : putE (newD 1048576) old = 0 := by unfold putE; rw [h0, if_pos rfl, w1]
  have e2 : putD (newD 1048576) old = ⟨1048576, [(fileN (nameL old), old)], [], [⟨0, fileN (nameL old), ByteArray.empty, old⟩], 1, -1, false⟩ := by
    unfold putD
    rw [h0, if_pos rfl, w2]
    rfl
  have e3 : putN (newD 1048576) old = nameL old := by unfold putN; rw [e1, if_pos rfl]
  have i1 : InvD 1 (putD (newD 1048576) old) := (InvD.new _ (by omega)).put hw
  have hu : used [(fileN (nameL old), old)] = old.length := by simp [used]
  obtain ⟨d1, hd1⟩ : ∃ d, d = putD (newD 1048576) old := ⟨_, rfl⟩
  rw [← hd1] at i1
  have hd1' := hd1.trans e2
  obtain ⟨s1, s2⟩ := set_ok (d := d1) hn (by rw [hd1']) (by rw [hd1']) (by rw [hd1']; show 1 < 500; decide) (by
    rw [hd1']
    show 64 + ((used [(fileN (nameL old), old)] : Nat) : Int) ≤ 1048576
    rw [hu]
    omega)
  refine ⟨newD 1048576, d1, setD d1 (nameL old), nameL old, rfl, ⟨e1, hd1.symm, e3⟩, ⟨s1, rfl⟩, ?_, rfl, InvD.new _ (by omega), i1, i1.set _⟩
  have hfine : Fine (rootF d1.now (nameL old)) (nameL old) old := ⟨look_root _ _, by
    rw [look_far _ _ _ (file_ne_root hn) (file_ne_fresh hn), hd1']
    unfold look
    simp⟩
  rw [s2]
  exact ⟨hfine, hfine, fun c hc => by cases hc⟩
/-- Then others are put, and are the root, wherever the power goes. -/
theorem once_then {A : ByteArray} {old next : List Int} {d : D} (h : PD A old d) (hA : A = nameL old) (hw : Wf old) (hn : Wf next) (ks : List Bool) : ∃ (r : ByteArray) (t : List Int),
    rootE (crashD (setD (putD d next) (putN d next)) ks) = 0 ∧ rootS (crashD (setD (putD d next) (putN d next)) ks) = r ∧ getE (crashD (setD (putD d next) (putN d next)) ks) r = 0 ∧ getB (crashD (setD (putD d next) (putN d next)) ks) r = t ∧ Wf t ∧
    ((setE (putD d next) (putN d next) ≠ 0 ∧ t = old) ∨ t = next) := by
  have hnA : named A = true := by rw [hA]; exact named_nameL _
  have hp := h.put next
  by_cases hE : putE d next = 0
  · have hN : putN d next = nameL next := by unfold putN; rw [hE, if_pos rfl]
    rw [hN]
    rcases set_once hp hnA (named_nameL next) (put_there next hE) ks with ⟨hf, hne⟩ | hf
    · obtain ⟨a1, a2, a3, a4⟩ := Fine.root (d := crashD (setD (putD d next) (nameL next)) ks) hf rfl hnA hA.symm
      exact ⟨_, _, a1, a2, a3, a4, hw, .inl ⟨hne, rfl⟩⟩
    · obtain ⟨a1, a2, a3, a4⟩ := Fine.root (d := crashD (setD (putD d next) (nameL next)) ks) hf rfl (named_nameL next) rfl
      exact ⟨_, _, a1, a2, a3, a4, hn, .inr rfl⟩
  · have hN : putN d next = ⟨#[]⟩ := by unfold putN; rw [if_neg hE]
    have hnn : named ⟨#[]⟩ = false := by kernel_rfl
    have hs : setE (putD d next) ⟨#[]⟩ = 1 := by unfold setE; rw [hnn, if_pos rfl]
    have hsD : setD (putD d next) ⟨#[]⟩ = putD d next := by unfold setD; rw [hnn, if_pos rfl]
    rw [hN, hs, hsD]
    obtain ⟨a1, a2, a3, a4⟩ := Fine.root (d := crashD (putD d next) ks) (hp.crash ks) rfl hnA hA.symm
    exact ⟨_, _, a1, a2, a3, a4, hw, .inl ⟨by decide, rfl⟩⟩
set_option maxRecDepth 100000 in
set_option maxHeartbeats 8000000 in
theorem once_law (w : World) (old : List Int) (A0 : Option Addr) (n0 c0 : Nat) (h0 : kT.K w old [.slice A0 n0 c0]) (g0 : goodB old) (next : List Int) (A1 : Option Addr) (n1 c1 : Nat) (h1 : kT.K w next [.slice A1 n1 c1]) (g1 : goodB next)
    (more : List (List Int)) (A2 : Option Addr) (n2 c2 : Nat) (h2 : kTs.K w more [.slice A2 n2 c2]) (g2 : goodT more) (fi : Int) (wfi : (Lit.int .u8 fi).wf = true) (ks : List Bool) (A4 : Option Addr) (n4 c4 : Nat) (h4 : (Kd.slice 4 Kd.bool).K w ks [.slice A4 n4 c4]) (g4 : goodK ks) :
    Calls Try.prog 4 #[.slice A0 n0 c0, .slice A1 n1 c1, .slice A2 n2 c2, .int .u8 fi, .slice A4 n4 c4] w fun e w' => e = .returned (.bool true) ∧ Below w.heap.size w w' := by
  obtain ⟨e0, l0, hC0⟩ := bytes_open h0
  obtain ⟨e1, l1, hC1⟩ := bytes_open h1
  obtain ⟨e2, l2, hC2⟩ := texts_open h2
  obtain ⟨e4, l4, hC4⟩ := keep_open h4
  have hw0 := wf_of g0.2
  have hw1 := wf_of g1.2
  have HR0 := Lib.hid (And.intro e0 (And.intro l0 (And.intro hC0 hw0)))
  have HR1 := Lib.hid (And.intro e1 (And.intro l1 (And.intro hC1 hw1)))
  have HR2 := Lib.hid (And.intro e2 (And.intro l2 (And.intro hC2 g2)))
  have HR4 := Lib.hid (And.intro e4 (And.intro l4 hC4))
  have hfi : 0 ≤ fi ∧ fi < 256 := by
    simp [Lit.wf, IntKind.min, IntKind.max, IntKind.bits, IntKind.signed] at wfi
    omega
  obtain ⟨f30, hf30⟩ : ∃ k : Int, k = fi % 30 := ⟨_, rfl⟩
  clear h0 h1 h2 h4 g0 g1 g2 g4 e0 l0 hC0 e1 l1 hC1 e2 l2 hC2 e4 l4 hC4 hw0 hw1 wfi
  go_enter Try.func4, Try.ntmps4
  go_wp2_with fail
  refine (head_any w).mono ?_
  rintro r w1 ⟨rfl, hB1⟩
  have HB1 := Lib.hid hB1
  clear hB1
  go_wp2_with fail
  refine (new_F 1048576 w w1 HB1.out (fun _ => False) (fun _ h => h.elim)).mono ?_
  rintro r w2 ⟨g, rfl, hD2, _⟩
  have HD2 := Lib.hid hD2
  clear hD2 HB1
  rcases Nat.lt_or_ge 1000 n0 with hn0 | hn0
  · have hI : (1000 : Int) < (n0 : Int) := by omega
    go_wp2_with fail
    go_ret
    exact ⟨rfl, HD2.out.hB⟩
  have hI0 : ¬ (1000 : Int) < (n0 : Int) := by omega
  rcases Nat.lt_or_ge 1000 n1 with hn1 | hn1
  · have hI : (1000 : Int) < (n1 : Int) := by omega
    go_wp2_with fail
    go_ret
    exact ⟨rfl, HD2.out.hB⟩
  have hI1 : ¬ (1000 : Int) < (n1 : Int) := by omega
  rcases Nat.lt_or_ge 20 n2 with hn2 | hn2
  · have hI : (20 : Int) < (n2 : Int) := by omega
    go_wp2_with fail
    go_ret
    exact ⟨rfl, HD2.out.hB⟩
  have hI2 : ¬ (20 : Int) < (n2 : Int) := by omega
  obtain ⟨d0, d1, d2, A, E0, E1, E2, hPD, hA, I0, I1, I2⟩ := once_first old HR0.out.2.2.2 (by have := HR0.out.1; omega)
  have HE := Lib.hid (And.intro E0 (And.intro E1 E2))
  have HI := Lib.hid (And.intro I0 (And.intro I1 I2))
  have HP := Lib.hid (And.intro hPD hA)
  rw [E0] at HD2
  clear E0 E1 E2 I0 I1 I2 hPD hA
  go_wp2_with fail
  have hput := put_F HD2.out (HI.out.1.small (by omega)) HI.out.1.wf A0 n0 c0 old HR0.out.1.symm HR0.out.2.2.2 (Kd.C_below HR0.out.2.2.1 HD2.out.hB) HR0.out.2.1 (by omega)
  rw [HE.out.2.1.1, HE.out.2.1.2.1, HE.out.2.1.2.2] at hput
  refine hput.mono ?_
  clear hput
  rintro r w3 ⟨rfl, hD3, _⟩
  have HD3 := Lib.hid hD3
  clear hD3 HD2
  go_wp2_with fail
  have hst := set_F HD3.out 1 HI.out.2.1 (by omega) A
  rw [HE.out.2.2.1, HE.out.2.2.2] at hst
  refine hst.mono ?_
  clear hst
  rintro r w4 ⟨rfl, hD4, _⟩
  have HD4 := Lib.hid hD4
  clear hD4 HD3
  go_wp2_with fail
  refine (fuse_F HD4.out (fi % 30)).mono ?_
  rintro r w5 ⟨rfl, hD5, _⟩
  have HD5 := Lib.hid hD5
  have H5 := Lib.hid (And.intro (HP.out.1.fuseI (fi % 30)) (HI.out.2.2.fuseI (fi % 30) (by omega)))
  clear hD5 HD4 hf30 hfi
  go_wp2_with fail
  go_loopw [16] (fun v wr => ∃ (i : Nat) (d : D), v = .int .i64 (i : Int) ∧ i ≤ n2 ∧ DiskF w wr (fun _ => False) g d ∧ PD A old d ∧ InvD (7 + i) d) (fun v _ => n2 - (Lib.intOf v).toNat)
  case atStart => exact ⟨0, _, rfl, Nat.zero_le _, HD5.out, H5.out.1, H5.out.2⟩
  case round =>
    obtain ⟨i, d, rfl, hi, hD, hPD, hIv⟩ := hrel
    have HD := Lib.hid hD
    have HV := Lib.hid (And.intro hPD hIv)
    clear hD hPD hIv HD5 H5 HE HI
    by_cases hin : i < n2
    · have d1 : (i : Int) < (n2 : Int) := by omega
      obtain ⟨x, hx⟩ : ∃ x, more[i]? = some x := ⟨_, List.getElem?_eq_getElem (by have := HR2.out.1; omega)⟩
      obtain ⟨ad, Ab, cb, e, x0, x1, x2⟩ := at_text (Kd.C_below HR2.out.2.2.1 HD.out.hB) i hin x hx
      subst e
      have hwx := wf_of (HR2.out.2.2.2.2 x (List.mem_of_getElem? hx)).2
      obtain ⟨m, hm⟩ : ∃ m, m = x.length := ⟨_, rfl⟩
      rw [← hm] at x0 x1 x2
      have HX := Lib.hid (And.intro hm (And.intro x1 (And.intro x2 hwx)))
      clear hm x1 x2 hwx hx
      rcases Nat.lt_or_ge 1000 m with hmm | hmm
      · have hI : (1000 : Int) < (m : Int) := by omega
        go_wp2_with fail
        go_ret
        exact ⟨rfl, HD.out.hB⟩
      · have hI : ¬ (1000 : Int) < (m : Int) := by omega
        go_wp2_with fail
        refine (put_F HD.out (HV.out.2.small (by omega)) HV.out.2.wf Ab m cb x HX.out.1.symm HX.out.2.2.2 HX.out.2.2.1 HX.out.2.1 (by omega)).mono ?_
        obtain ⟨pe, hpe⟩ : ∃ e, e = putE d x := ⟨_, rfl⟩
        obtain ⟨pn, hpn⟩ : ∃ e, e = putN d x := ⟨_, rfl⟩
        rw [← hpe, ← hpn]
        clear hpe hpn
        rintro r w6 ⟨rfl, hD6, _⟩
        have H6 := Lib.hid (And.intro hD6 (And.intro (HV.out.1.put x) (HV.out.2.put HX.out.2.2.2)))
        clear hD6
        go_wp2_with fail
        go_roundw
        case rel => exact ⟨i + 1, _, by simp, by omega, H6.out.1, H6.out.2.1, H6.out.2.2⟩
        case measure => simp [Lib.intOf]; omega
    · have d1 : ¬ (i : Int) < (n2 : Int) := by omega
      obtain ⟨b, hb⟩ : ∃ b, b = putN d next := ⟨_, rfl⟩
      obtain ⟨pe, hpe⟩ : ∃ e, e = putE d next := ⟨_, rfl⟩
      obtain ⟨d6, hd6⟩ : ∃ e, e = putD d next := ⟨_, rfl⟩
      obtain ⟨se, hse⟩ : ∃ e, e = setE d6 b := ⟨_, rfl⟩
      obtain ⟨d7, hd7⟩ : ∃ e, e = setD d6 b := ⟨_, rfl⟩
      obtain ⟨d8, hd8⟩ : ∃ e, e = crashD d7 ks := ⟨_, rfl⟩
      obtain ⟨rr, tt, q1, q2, q3, q4, q5, q6⟩ := once_then HV.out.1 HP.out.2 HR0.out.2.2.2 HR1.out.2.2.2 ks
      rw [← hb, ← hd6, ← hd7, ← hd8] at q1 q2 q3 q4
      rw [← hb, ← hd6, ← hse] at q6
      have i6 : InvD (8 + i) d6 := by rw [hd6, show 8 + i = 7 + i + 1 by omega]; exact HV.out.2.put HR1.out.2.2.2
      have i7 : InvD (8 + i + 5) d7 := by rw [hd7]; exact i6.set b
      have i8 : InvD (8 + i + 5 + 1) d8 := by rw [hd8]; exact i7.crash ks
      have HQ := Lib.hid (And.intro q1 (And.intro q2 (And.intro q3 (And.intro q4 (And.intro q5 q6)))))
      have H6 := Lib.hid (And.intro i6 (And.intro i7 i8))
      have HN := Lib.hid (And.intro hb (And.intro hpe (And.intro hd6 (And.intro hse (And.intro hd7 hd8)))))
      clear hb hpe hd6 hse hd7 hd8 q1 q2 q3 q4 q5 q6 i6 i7 i8
      go_wp2_with fail
      have hput := put_F HD.out (HV.out.2.small (by omega)) HV.out.2.wf A1 n1 c1 next HR1.out.1.symm HR1.out.2.2.2 (Kd.C_below HR1.out.2.2.1 HD.out.hB) HR1.out.2.1 (by omega)
      rw [← HN.out.1, ← HN.out.2.1, ← HN.out.2.2.1] at hput
      refine hput.mono ?_
      clear hput
      rintro r w6 ⟨rfl, hD6, _⟩
      have HD6 := Lib.hid hD6
      clear hD6 HD
      go_wp2_with fail
      have hst := set_F HD6.out (8 + i) H6.out.1 (by omega) b
      rw [← HN.out.2.2.2.1, ← HN.out.2.2.2.2.1] at hst
      refine hst.mono ?_
      clear hst
      rintro r w7 ⟨rfl, hD7, _⟩
      have HD7 := Lib.hid hD7
      clear hD7 HD6
      go_wp2_with fail
      have hcr := crash_F HD7.out (H6.out.2.1.small (by omega)) A4 n4 c4 ks HR4.out.1.symm (Kd.C_below HR4.out.2.2 HD7.out.hB)
      rw [← HN.out.2.2.2.2.2] at hcr
      refine hcr.mono ?_
      clear hcr
      rintro r w8 ⟨rfl, hD8, _⟩
      have HD8 := Lib.hid hD8
      clear hD8 HD7
      go_wp2_with fail
      have hrt := root_F HD8.out (H6.out.2.2.small (by omega)) H6.out.2.2.wf
      rw [HQ.out.1, HQ.out.2.1] at hrt
      refine hrt.mono ?_
      clear hrt
      rintro r w9 ⟨rfl, hB9⟩
      have HD9 := Lib.hid (HD8.out.below hB9)
      clear hB9 HD8
      go_wp2_with fail
      have hrl : (readB d8 (fileN rr)).length < 1000000000 := by
        have hg := HQ.out.2.2.2.1
        unfold getB at hg
        rw [HQ.out.2.2.1, if_pos rfl] at hg
        have h1 := look_used (fs := d8.now) (s := fileN rr)
        unfold readB
        have hs := H6.out.2.2.i.each.1
        split
        · decide
        · cases hl : look d8.now (fileN rr) with
          | none => decide
          | some t =>
            have := hs _ (look_mem hl)
            show t.length < 1000000000
            have h2 : t.length ≤ 65536 := this
            omega
      have hgt := get_F HD9.out (H6.out.2.2.small (by omega)) H6.out.2.2.wf rr hrl
      rw [HQ.out.2.2.1, HQ.out.2.2.2.1] at hgt
      refine hgt.mono ?_
      clear hgt hrl
      rintro r w10 ⟨v, rfl, hR, hB10⟩
      obtain ⟨A10, c10, rfl, _, hC10⟩ := Kd.R_reads hR
      have HD10 := Lib.hid (HD9.out.below hB10)
      have hs1 : (convert 32 9 (.slice A10 tt.length c10)).run Try.prog w10 = .ok (.string (toS tt)) w10 := Kd.C_string Try.underlying32 Try.underlying5 Try.underlying9 hC10
      have hs2 : (convert 32 9 (.slice A1 n1 c1)).run Try.prog w10 = .ok (.string (toS next)) w10 := Kd.C_string Try.underlying32 Try.underlying5 Try.underlying9 (Kd.C_below HR1.out.2.2.1 HD10.out.hB)
      have hs3 : (convert 32 9 (.slice A0 n0 c0)).run Try.prog w10 = .ok (.string (toS old)) w10 := Kd.C_string Try.underlying32 Try.underlying5 Try.underlying9 (Kd.C_below HR0.out.2.2.1 HD10.out.hB)
      have hq := HQ.out.2.2.2.2.2
      obtain ⟨ml, hml⟩ : ∃ m, m = tt.length := ⟨_, rfl⟩
      rw [← hml] at hs1 ⊢
      obtain ⟨st, hst⟩ : ∃ m, m = toS tt := ⟨_, rfl⟩
      obtain ⟨sn, hsn⟩ : ∃ m, m = toS next := ⟨_, rfl⟩
      obtain ⟨so, hso⟩ : ∃ m, m = toS old := ⟨_, rfl⟩
      rw [← hst] at hs1
      rw [← hsn] at hs2
      rw [← hso] at hs3
      have HSS := Lib.hid (And.intro hst (And.intro hsn hso))
      clear hst hsn hso hml hR hC10 hB10 HD9
      by_cases hs0 : se = 0
      · have htn : tt = next := by
          rcases hq with ⟨h, _⟩ | h
          · exact absurd hs0 h
          · exact h
        have e1 : (st.toList == sn.toList) = true := by rw [HSS.out.1, HSS.out.2.1, htn]; exact beq_self_eq_true _
        have HT := Lib.hid htn
        clear htn hq
        subst hs0
        go_wp2_with fail
        go_ret
        exact ⟨rfl, HD10.out.hB⟩
      · by_cases hto : tt = old
        · have e1 : (st.toList == so.toList) = true := by rw [HSS.out.1, HSS.out.2.2, hto]; exact beq_self_eq_true _
          clear hq hto
          go_wp2_with fail
          go_ret
          exact ⟨rfl, HD10.out.hB⟩
        · have htn : tt = next := by
            rcases hq with ⟨_, h⟩ | h
            · exact absurd h hto
            · exact h
          have e1 : (st.toList == so.toList) = false := by
            rw [eqU8, HSS.out.1, HSS.out.2.2]
            exact decide_eq_false (fun h => hto (toS_inj HQ.out.2.2.2.2.1 HR0.out.2.2.2 h))
          have e2 : (st.toList == sn.toList) = true := by rw [HSS.out.1, HSS.out.2.1, htn]; exact beq_self_eq_true _
          clear hq hto htn
          go_wp2_with fail
          go_ret
          exact ⟨rfl, HD10.out.hB⟩
end Go.Proofs.Ytnjdighpdcabcaa
