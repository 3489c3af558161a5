/- StoreClash. -/
import Derived.Test.YtnjdighpdcabcaaSt
import Derived.Test.YtnjdighpdcabcaaSo
import Derived.Test.YtnjdighpdcabcaaPStoreClashx10
set_option linter.unusedVariables false
set_option linter.unusedSimpArgs false
namespace Go.Proofs.Ytnjdighpdcabcaa
open Go.RowKit Go.Proofs.YtnjdighpdcabcaaW.PrintWords Go.Proofs.YtnjdighpdcabcaaW.PrintLast Go.Proofs.YtnjdighpdcabcaaW.PrintMore

theorem nameR_len (n cp : Nat) (A : Option Addr) (l : List Int) (w : World) (hn : l.length = n) (hw : Wf l) (hC : Kd.C (Kd.int .u8) w A n l) (hc : n ≤ cp) (hl : n < 1000000000) :
    Calls Try.prog 17 #[.slice A n cp] w fun e w' => e = .returned (.string (nameL l)) ∧ Below w.heap.size w w' := by
  subst hn
  have h := name_ref cp A (toB l) w (by rw [toB_length, byt_toB hw]; exact hC) (by rw [toB_length]; exact hc) (by rw [toB_length]; exact hl)
  rw [toB_length] at h
  exact h
theorem fileR_any (s : ByteArray) (h : 32 ≤ s.size) (w : World) : Calls Try.prog 19 #[.string s] w fun e w' => e = .returned (.string (fileN s)) ∧ Below w.heap.size w w' := by
  refine (PStoreClash.counterpaneref03_File.calls s (fileN s) w ?_).mono ?_
  · unfold PStoreClash.counterpaneref03_File.f
    have h2 := fileN_size s h
    unfold fileN at h2 ⊢
    rw [ByteArray.size_append] at h2
    have h3 : (⟨#[111, 46]⟩ : ByteArray).size = 2 := rfl
    rw [if_pos (by decide), if_pos (by omega), if_pos (by omega)]
  · rintro e w' ⟨rfl, hd⟩
    exact ⟨rfl, hd.below⟩
theorem wf_of {l : List Int} (h : ∀ x ∈ l, (Lit.int .u8 x).wf = true) : Wf l := fun x hx => by
  have := h x hx
  simp [Lit.wf, IntKind.min, IntKind.max, IntKind.bits, IntKind.signed] at this
  omega
/-- A row of one file. -/
theorem file_C {W : World} {b : Nat} {t : TypeId} {fr : Nat × Nat} {f : ByteArray} {l : List Int} {A : Option Addr} {n c : Nat} (hn : l.length = n) (hc : n ≤ c) (hb : W.heap[b]? = some (.cells #[.string f, .slice A n c] t fr)) (hC : Kd.C (Kd.int .u8) W A n l) :
    Kd.C kFile W (some ⟨b, 0, none⟩) 1 [(f, l)] := by
  subst hn
  refine ⟨rfl, by decide, fun _ => ⟨_, rfl, fun j x hj => ?_⟩⟩
  have hj0 : j = 0 := by
    have := (List.getElem?_eq_some_iff.1 hj).1
    simp at this
    omega
  subst hj0
  obtain rfl : (f, l) = x := Option.some.inj hj
  refine ⟨[.string f, .slice A l.length c], rfl, ⟨[.string f], [.slice A l.length c], rfl, rfl, ⟨A, c, rfl, hc, hC⟩⟩, fun i u hu => ?_⟩
  rw [show ((⟨b, 0, none⟩ : Addr).add (0 * kFile.sz + i)) = ⟨b, i, none⟩ by rw [Nat.zero_mul, Nat.zero_add]; cases i <;> simp [Addr.add]]
  rw [cell_of_row _ _ _ _ _ _ hb]
  simpa using hu
/-- What StoreClash sees. -/
theorem clash_plain (b wr : List Int) (hw : Wf b) (hw2 : Wf wr) (hl : wr.length ≤ 1000) : ∃ (d : D), ofL [] [(fileN (nameL b), wr)] = some [(fileN (nameL b), wr)] ∧ ofD 1048576 [(fileN (nameL b), wr)] = d ∧ d.acts = 0 ∧ putD d b = d ∧ InvD 1 d ∧
    putE d b = (if wr = b then 0 else 31) ∧ putN d b = (if wr = b then nameL b else ⟨#[]⟩) ∧ getE d (nameL b) = (if nameL wr = nameL b then 0 else 3) ∧ (readB d (fileN (nameL b))).length < 1000000000 := by
  have hr := right_file (named_nameL b)
  obtain ⟨f, hf⟩ : ∃ f, f = fileN (nameL b) := ⟨_, rfl⟩
  rw [← hf] at hr ⊢
  have h1 : readE (ofD 1048576 [(f, wr)]) f = 0 := by unfold readE ofD look; simp
  have h2 : readB (ofD 1048576 [(f, wr)]) f = wr := by unfold readB ofD look; simp
  have hE : putE (ofD 1048576 [(f, wr)]) b = (if wr = b then 0 else 31) := by
    unfold putE
    rw [← hf, h1, h2, if_neg (by decide)]
    by_cases h : wr = b
    · rw [if_neg (by rintro ⟨_, h'⟩; exact h' h), if_pos h]
    · rw [if_pos ⟨rfl, h⟩, if_neg h]
  refine ⟨_, ?_, rfl, rfl, ?_, ⟨⟨?_, ?_, ⟨Int.le_refl _, (by show (0 : Int) ≤ ((1 : Nat) : Int); decide)⟩, ⟨(by show (-1 : Int) ≤ -1; decide), (by show (-1 : Int) ≤ 9223372036854775807; decide)⟩, ⟨(by show (0 : Int) ≤ max 1048576 0; decide), (by show (max 1048576 0 : Int) ≤ 9223372036854775807; decide)⟩, ⟨?_, ?_, fun c hc => by cases hc⟩⟩, ⟨?_, ?_, fun c hc => by cases hc⟩⟩, hE, ?_, ?_, by rw [h2]; omega⟩
  · unfold ofL ofL
    rw [if_neg (by
      rintro (h | h | h)
      · cases h
      · rw [hr] at h; cases h
      · have : wr.length ≤ 1000 := hl
        have h' : 65536 < wr.length := h
        omega)]
    rfl
  · unfold putD
    rw [← hf, h1, if_neg (by decide)]
  · exact Nat.le_refl 1
  · exact Nat.le_refl 1
  · intro p hp
    rw [List.mem_singleton.1 hp]
    show wr.length ≤ 65536
    omega
  · intro p hp
    rw [List.mem_singleton.1 hp]
    show wr.length ≤ 65536
    omega
  · intro p hp
    rw [List.mem_singleton.1 hp]
    exact hw2
  · intro p hp
    rw [List.mem_singleton.1 hp]
    exact hw2
  · unfold putN
    rw [hE]
    by_cases h : wr = b
    · rw [if_pos h, if_pos h, if_pos rfl]
    · rw [if_neg h, if_neg h, if_neg (by decide)]
  · unfold getE
    rw [← hf, h1, h2, named_nameL, if_neg (by decide), if_neg (by decide)]
    by_cases h : nameL wr = nameL b
    · rw [if_neg (fun h' => h' h), if_pos h]
    · rw [if_pos h, if_neg h]
set_option maxRecDepth 100000 in
set_option maxHeartbeats 8000000 in
theorem clash_law (w : World) (b : List Int) (A0 : Option Addr) (n0 c0 : Nat) (h0 : kT.K w b [.slice A0 n0 c0]) (g0 : goodB b) (wr : List Int) (A1 : Option Addr) (n1 c1 : Nat) (h1 : kT.K w wr [.slice A1 n1 c1]) (g1 : goodB wr) :
    Calls Try.prog 5 #[.slice A0 n0 c0, .slice A1 n1 c1] w fun e w' => e = .returned (.bool true) ∧ Below w.heap.size w w' := by
  obtain ⟨e0, l0, hC0⟩ := bytes_open h0
  obtain ⟨e1, l1, hC1⟩ := bytes_open h1
  have hw0 := wf_of g0.2
  have hw1 := wf_of g1.2
  have HR0 := Lib.hid (And.intro e0 (And.intro l0 (And.intro hC0 hw0)))
  have HR1 := Lib.hid (And.intro e1 (And.intro l1 (And.intro hC1 hw1)))
  clear h0 h1 g0 g1 e0 l0 hC0 e1 l1 hC1 hw0 hw1
  go_enter Try.func5, Try.ntmps5
  go_wp2_with fail
  refine (head_any w).mono ?_
  rintro r w1 ⟨rfl, hB1⟩
  have HB1 := Lib.hid hB1
  clear hB1
  rcases Nat.lt_or_ge 1000 n0 with hn0 | hn0
  · have hI : (1000 : Int) < (n0 : Int) := by omega
    go_wp2_with fail
    go_ret
    exact ⟨rfl, HB1.out⟩
  have hI0 : ¬ (1000 : Int) < (n0 : Int) := by omega
  rcases Nat.lt_or_ge 1000 n1 with hn1 | hn1
  · have hI : (1000 : Int) < (n1 : Int) := by omega
    go_wp2_with fail
    go_ret
    exact ⟨rfl, HB1.out⟩
  have hI1 : ¬ (1000 : Int) < (n1 : Int) := by omega
  obtain ⟨d, P1, P2, P3, P4, P5, P6, P7, P8, P9⟩ := clash_plain b wr HR0.out.2.2.2 HR1.out.2.2.2 (by have := HR1.out.1; omega)
  obtain ⟨pe, hpe⟩ : ∃ x : Int, x = if wr = b then 0 else 31 := ⟨_, rfl⟩
  obtain ⟨pn, hpn⟩ : ∃ x : ByteArray, x = if wr = b then nameL b else ⟨#[]⟩ := ⟨_, rfl⟩
  obtain ⟨ge, hge⟩ : ∃ x : Int, x = if nameL wr = nameL b then 0 else 3 := ⟨_, rfl⟩
  rw [← hpe] at P6
  rw [← hpn] at P7
  rw [← hge] at P8
  have HPE := Lib.hid (And.intro hpe (And.intro hpn hge))
  have HP := Lib.hid (And.intro P1 (And.intro P2 (And.intro P3 P4)))
  have HI := Lib.hid P5
  have HQ := Lib.hid (And.intro P6 (And.intro P7 (And.intro P8 P9)))
  clear P1 P2 P3 P4 P5 P6 P7 P8 P9 hpe hpn hge
  obtain ⟨nm, hnm⟩ : ∃ x, x = nameL b := ⟨_, rfl⟩
  obtain ⟨f, hf⟩ : ∃ x, x = fileN nm := ⟨_, rfl⟩
  rw [← hnm, ← hf] at HP HQ
  rw [← hnm] at HPE
  have hn64 : nm.size = 64 := by rw [hnm]; exact nameL_size b
  have HNM := Lib.hid (And.intro hnm (And.intro hf hn64))
  clear hnm hf hn64
  go_wp2_with fail
  refine (nameR_len n0 c0 A0 b w1 HR0.out.1.symm HR0.out.2.2.2 (Kd.C_below HR0.out.2.2.1 HB1.out) HR0.out.2.1 (by omega)).mono ?_
  rw [← HNM.out.1]
  rintro r w2 ⟨rfl, hB2⟩
  have HB2 := Lib.hid (HB1.out.trans (hB2.mono HB1.out.size))
  clear hB2 HB1
  go_wp2_with fail
  refine (fileR_any nm (by have := HNM.out.2.2; omega) w2).mono ?_
  rw [← HNM.out.2.1]
  rintro r w3 ⟨rfl, hB3⟩
  have HB3 := Lib.hid (HB2.out.trans (hB3.mono HB2.out.size))
  clear hB3 HB2
  go_wp2_with fail
  obtain ⟨w4, hw4⟩ : ∃ w4, w4 = w3.alloc (.cells #[.string f, .slice A1 n1 c1] 45) := ⟨_, rfl⟩
  have hB4 : Below w3.heap.size w3 w4 := by rw [hw4]; exact (Below.refl _ _).alloc (Nat.le_refl _) _
  have hrow : w4.heap[w3.heap.size]? = some (.cells #[.string f, .slice A1 n1 c1] 45 (0, 0)) := by rw [hw4]; exact heap_alloc_new w3 _
  have HB4 := Lib.hid (HB3.out.trans (hB4.mono HB3.out.size))
  rw [← hw4]
  refine (of_any 1048576 w w4 HB4.out (fun _ => False) (fun _ h => h.elim) (some ⟨w3.heap.size, 0, none⟩) 1 1 [(f, wr)] rfl ⟨by show 1 * 40 ≤ _; decide, fun x hx => by
    rw [List.mem_singleton.1 hx]
    refine ⟨?_, ⟨by show wr.length * 1 ≤ _; have := HR1.out.1; omega, fun x hx => ?_⟩⟩
    · show f.size ≤ _
      rw [HNM.out.2.1, fileN_size nm (by have := HNM.out.2.2; omega)]
      decide
    · have := HR1.out.2.2.2 x hx
      simp [Lit.wf, IntKind.min, IntKind.max, IntKind.bits, IntKind.signed]
      omega⟩ (file_C HR1.out.1.symm HR1.out.2.1 hrow (Kd.C_below HR1.out.2.2.1 HB4.out))).mono ?_
  clear hB4 hrow hw4
  rintro r w5 ⟨hE, hB5⟩
  have hE2 : ∃ g, r = .returned (pt g) ∧ DiskF w w5 (fun _ => False) g d := by
    rcases hE with ⟨_, h⟩ | ⟨g, fs, h1, h2, _, h4⟩
    · rw [HP.out.1] at h
      exact absurd (show 512 < 1 from h) (by decide)
    · rw [HP.out.1] at h2
      obtain rfl := Option.some.inj h2
      rw [HP.out.2.1] at h4
      exact ⟨g, h1, h4⟩
  clear hE hB5
  obtain ⟨g, rfl, hD5⟩ := hE2
  have HD5 := Lib.hid hD5
  clear hD5 HB4 HB3
  go_wp2_with fail
  have hput := put_F HD5.out (HI.out.small (by omega)) HI.out.wf A0 n0 c0 b HR0.out.1.symm HR0.out.2.2.2 (Kd.C_below HR0.out.2.2.1 HD5.out.hB) HR0.out.2.1 (by omega)
  rw [HP.out.2.2.2, HQ.out.1, HQ.out.2.1] at hput
  refine hput.mono ?_
  clear hput
  rintro r w6 ⟨rfl, hD6, _⟩
  have HD6 := Lib.hid hD6
  clear hD6 HD5
  go_wp2_with fail
  have hget := get_F HD6.out (HI.out.small (by omega)) HI.out.wf nm (by rw [← HNM.out.2.1]; exact HQ.out.2.2.2)
  rw [HQ.out.2.2.1] at hget
  refine hget.mono ?_
  clear hget
  rintro r w7 ⟨v, rfl, hR7, hB7⟩
  have HD7 := Lib.hid (HD6.out.below hB7)
  obtain ⟨m7, A7, c7, rfl⟩ : ∃ m7 A7 c7, v = .slice A7 m7 c7 := by
    obtain ⟨A7, c7, e, _⟩ := Kd.R_reads hR7
    exact ⟨_, A7, c7, e⟩
  clear hB7 HD6 hR7
  have hs0 : (convert 32 9 (.slice A0 n0 c0)).run Try.prog w7 = .ok (.string (toS b)) w7 := Kd.C_string Try.underlying32 Try.underlying5 Try.underlying9 (Kd.C_below HR0.out.2.2.1 HD7.out.hB)
  have hs1 : (convert 32 9 (.slice A1 n1 c1)).run Try.prog w7 = .ok (.string (toS wr)) w7 := Kd.C_string Try.underlying32 Try.underlying5 Try.underlying9 (Kd.C_below HR1.out.2.2.1 HD7.out.hB)
  have hac := acts_F HD7.out
  rw [HP.out.2.2.1] at hac
  have HAC := Lib.hid hac
  clear hac
  obtain ⟨sb, hsb⟩ : ∃ x, x = toS b := ⟨_, rfl⟩
  obtain ⟨sw, hsw⟩ : ∃ x, x = toS wr := ⟨_, rfl⟩
  rw [← hsb] at hs0
  rw [← hsw] at hs1
  have HSS := Lib.hid (And.intro hsb hsw)
  clear hsb hsw
  by_cases hbw : wr = b
  · have heq : (sb.toList == sw.toList) = true := by rw [HSS.out.1, HSS.out.2, hbw]; exact beq_self_eq_true _
    have hnn : (nm.toList == nm.toList) = true := beq_self_eq_true _
    obtain rfl : pe = 0 := HPE.out.1.trans (if_pos hbw)
    obtain rfl : pn = nm := HPE.out.2.1.trans (if_pos hbw)
    obtain rfl : ge = 0 := HPE.out.2.2.trans (if_pos (by rw [hbw]; exact HNM.out.1.symm))
    have HBW := Lib.hid hbw
    clear hbw
    go_wp2_with fail
    refine HAC.out.mono ?_
    rintro r w8 ⟨rfl, e8⟩
    rw [e8]
    clear e8 w8
    go_wp2_with fail
    go_ret
    exact ⟨rfl, HD7.out.hB⟩
  · have heq : (sb.toList == sw.toList) = false := by
      rw [eqU8, HSS.out.1, HSS.out.2]
      exact decide_eq_false (fun h => hbw (toS_inj HR1.out.2.2.2 HR0.out.2.2.2 h.symm))
    obtain rfl : pe = 31 := HPE.out.1.trans (if_neg hbw)
    obtain rfl : pn = ⟨#[]⟩ := HPE.out.2.1.trans (if_neg hbw)
    have hnr := nameR_len n1 c1 A1 wr w7 HR1.out.1.symm HR1.out.2.2.2 (Kd.C_below HR1.out.2.2.1 HD7.out.hB) HR1.out.2.1 (by omega)
    obtain ⟨nw, hnw⟩ : ∃ x, x = nameL wr := ⟨_, rfl⟩
    rw [← hnw] at hnr HPE
    have HNR := Lib.hid hnr
    clear hbw hnr hnw
    by_cases hnn : nw = nm
    · have heq2 : (nw.toList == nm.toList) = true := by rw [hnn]; exact beq_self_eq_true _
      obtain rfl : ge = 0 := HPE.out.2.2.trans (if_pos hnn)
      clear hnn
      go_wp2_with fail
      refine HNR.out.mono ?_
      rintro r w8 ⟨rfl, hB8⟩
      have HD8 := Lib.hid (HD7.out.below hB8)
      have hac := acts_F HD8.out
      rw [HP.out.2.2.1] at hac
      have HAC := Lib.hid hac
      clear hac hB8
      go_wp2_with fail
      refine HAC.out.mono ?_
      rintro r w9 ⟨rfl, e9⟩
      rw [e9]
      clear e9 w9
      go_wp2_with fail
      go_ret
      exact ⟨rfl, HD8.out.hB⟩
    · have heq2 : (nw.toList == nm.toList) = false := by rw [eqU8]; exact decide_eq_false hnn
      obtain rfl : ge = 3 := HPE.out.2.2.trans (if_neg hnn)
      clear hnn
      go_wp2_with fail
      refine HNR.out.mono ?_
      rintro r w8 ⟨rfl, hB8⟩
      have HD8 := Lib.hid (HD7.out.below hB8)
      have hac := acts_F HD8.out
      rw [HP.out.2.2.1] at hac
      have HAC := Lib.hid hac
      clear hac hB8
      go_wp2_with fail
      refine HAC.out.mono ?_
      rintro r w9 ⟨rfl, e9⟩
      rw [e9]
      clear e9 w9
      go_wp2_with fail
      go_ret
      exact ⟨rfl, HD8.out.hB⟩
end Go.Proofs.Ytnjdighpdcabcaa
