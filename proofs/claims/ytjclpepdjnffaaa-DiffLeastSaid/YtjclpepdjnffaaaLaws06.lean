/- Chapter 06's statements: what their arguments are; DiffBack's contract. -/
import Derived.Test.YtjclpepdjnffaaaDiffH
import Derived.Test.YtjclpepdjnffaaaOpen
set_option linter.unusedVariables false
set_option linter.unusedSimpArgs false
namespace Go.Proofs.Ytjclpepdjnffaaa
open Go.RowKit Go.Proofs.YtjclpepdjnffaaaW.PrintWords Go.Proofs.YtjclpepdjnffaaaW.PrintLast Go.Proofs.Ytjclpepdjnffaaa.PDiffTells

def goodL (xs : List ByteArray) : Prop := xs.length * 16 ≤ 140737488351232 ∧ ∀ x ∈ xs, x.size ≤ 140737488351232
theorem opens_lines : Opens Try.prog 22 (Kd.slice 9 Kd.string) goodL :=
  Opens.slice Try.underlying22 (by kernel_rfl) (B := 16) (by kernel_rfl) (Opens.string Try.underlying9)
def goodH (h : S24) : Prop := (Lit.int .i64 h.f0).wf = true ∧ goodL h.f1 ∧ goodL h.f2
theorem opens_hunk : Opens Try.prog 24 k24 goodH :=
  Opens.iso (Opens.struct Try.underlying24 (by kernel_rfl) (OpensF.cons rfl (by kernel_rfl) (Opens.int Try.underlying3) (OpensF.cons rfl (by kernel_rfl) opens_lines (OpensF.one rfl (by kernel_rfl) opens_lines))))
    (fun x : S24 => (x.f0, x.f1, x.f2)) (fun p => ⟨p.1, p.2.1, p.2.2⟩) (fun _ => rfl)
theorem lines_open {w : World} {x : List ByteArray} {A : Option Addr} {n c : Nat} (h : (Kd.slice 9 Kd.string).K w x [.slice A n c]) : n = x.length ∧ x.length ≤ c ∧ Kd.string.C w A x.length x := by
  obtain ⟨A', c', e, l, g⟩ := h
  injection e with e _
  injection e with a b c
  subst a
  subst b
  subst c
  exact ⟨rfl, l, g⟩
theorem hunk_open {w : World} {x : S24} {cs : Array Value} (h : k24.K w x cs.toList) : ∃ A1 c1 A2 c2, cs = #[.int .i64 x.f0, .slice A1 x.f1.length c1, .slice A2 x.f2.length c2] ∧ x.f1.length ≤ c1 ∧ Kd.string.C w A1 x.f1.length x.f1 ∧ x.f2.length ≤ c2 ∧ Kd.string.C w A2 x.f2.length x.f2 := by
  obtain ⟨A1, c1, A2, c2, e, l1, g1, l2, g2⟩ := k24_open h
  exact ⟨A1, c1, A2, c2, by cases cs; simpa using e, l1, g1, l2, g2⟩
theorem goodL_lt {x : List ByteArray} (g : goodL x) : x.length < 100000000000000 := by
  have := g.1
  omega
theorem great_n (nx ny c d : Nat) (x y : List ByteArray) (A B : Option Addr) (w : World) (h1 : x.length = nx) (h2 : y.length = ny) (hA : Kd.string.C w A nx x) (hc : nx ≤ c) (hB : Kd.string.C w B ny y) (hd : ny ≤ d) (hx : nx < 100000000000000) (hy : ny < 100000000000000) :
    ∃ r, (r = false → nx ≤ 200 ∧ ny ≤ 200) ∧ Calls Try.prog 10 #[.slice A nx c, .slice B ny d] w fun e w' => e = .returned (.bool r) ∧ Below w.heap.size w w' := by
  subst h1
  subst h2
  exact great_any x y A c B d w hA hc hB hd hx hy
theorem greatHunk_n (p : Int) (nx ny c d : Nat) (x y : List ByteArray) (A B : Option Addr) (w : World) (h1 : x.length = nx) (h2 : y.length = ny) (hA : Kd.string.C w A nx x) (hc : nx ≤ c) (hB : Kd.string.C w B ny y) (hd : ny ≤ d) (hx : nx < 100000000000000) (hy : ny < 100000000000000) :
    ∃ r, (r = false → nx ≤ 200 ∧ ny ≤ 200) ∧ Calls Try.prog 11 #[.agg #[.int .i64 p, .slice A nx c, .slice B ny d]] w fun e w' => e = .returned (.bool r) ∧ Below w.heap.size w w' := by
  subst h1
  subst h2
  exact greatHunk_any p x y A c B d w hA hc hB hd hx hy
theorem lsame_n (n m c d : Nat) (x y : List ByteArray) (A B : Option Addr) (w : World) (h1 : x.length = n) (h2 : y.length = m) (hA : Kd.string.C w A n x) (hc : n ≤ c) (hB : Kd.string.C w B m y) (hd : m ≤ d) (hn : n < 4611686018427387904) :
    Calls Try.prog 17 #[.slice A n c, .slice B m d] w fun e w' => e = .returned (.bool (decide (x = y))) ∧ Below w.heap.size w w' := by
  subst h1
  subst h2
  refine (counterpaneref05_Same.calls (x.length + 1) A c x B d y _ w hA hc hB hd (lsame_f x y hn _ (by omega))).mono ?_
  rintro e w' ⟨rfl, hD⟩
  exact ⟨rfl, hD.below⟩
/-- What a law holds that was handed a hunk. -/
structure HSt (w0 w : World) (hb : Nat) (p : Int) (Ao : Option Addr) (no co : Nat) (An : Option Addr) (nn cn : Nat) : Prop where
  bel : Below w0.heap.size w0 w
  blk : w.heap[hb]? = some (.cells #[.int .i64 p, .slice Ao no co, .slice An nn cn] 24 (0, 0))
theorem HSt.start (w0 : World) (p : Int) (Ao : Option Addr) (no co : Nat) (An : Option Addr) (nn cn : Nat) : HSt w0 (w0.alloc (.cells #[.int .i64 p, .slice Ao no co, .slice An nn cn] 24)) w0.heap.size p Ao no co An nn cn :=
  ⟨(Below.refl _ _).alloc (Nat.le_refl _) _, heap_alloc_new _ _⟩
theorem HSt.below {w0 w w' : World} {hb : Nat} {p : Int} {Ao : Option Addr} {no co : Nat} {An : Option Addr} {nn cn : Nat} (h : HSt w0 w hb p Ao no co An nn cn) (hB : Below w.heap.size w w') : HSt w0 w' hb p Ao no co An nn cn :=
  ⟨below_then h.bel h.bel.size hB, (hB.block _ (blk_lt h.blk)).trans h.blk⟩
theorem HSt.cells {w0 w : World} {hb : Nat} {p : Int} {Ao : Option Addr} {no co : Nat} {An : Option Addr} {nn cn : Nat} (h : HSt w0 w hb p Ao no co An nn cn) : w.cell? ⟨hb, 0, none⟩ = some (.int .i64 p) ∧ w.cell? ⟨hb, 1, none⟩ = some (.slice Ao no co) ∧ w.cell? ⟨hb, 2, none⟩ = some (.slice An nn cn) ∧ hb < w.heap.size :=
  ⟨(head_cells h.blk).1, (head_cells h.blk).2.1, (head_cells h.blk).2.2, blk_lt h.blk⟩

set_option maxRecDepth 100000 in
set_option maxHeartbeats 8000000 in
theorem back_law (w : World) (x : List ByteArray) (A : Option Addr) (n c : Nat) (h : (Kd.slice 9 Kd.string).K w x [.slice A n c]) (g : goodL x) (hk : S24) (cs : Array Value) (h2 : k24.K w hk cs.toList) (g2 : goodH hk) :
    Calls Try.prog 6 #[.slice A n c, .agg cs] w fun e w' => e = .returned (.bool true) ∧ Below w.heap.size w w' := by
  obtain ⟨rfl, hc, hA⟩ := lines_open h
  obtain ⟨Ao, co, An, cn, rfl, hco, hO, hcn, hN⟩ := hunk_open h2
  have gx := goodL_lt g
  have go := goodL_lt g2.2.1
  have gn := goodL_lt g2.2.2
  obtain ⟨p, old, new⟩ := hk
  simp only at hco hO hcn hN go gn ⊢
  have HA := Lib.hid hA
  have HO := Lib.hid hO
  have HN := Lib.hid hN
  clear h h2 g g2 hA hO hN
  obtain ⟨nx, hnx⟩ : ∃ nx, nx = x.length := ⟨_, rfl⟩
  obtain ⟨no, hno⟩ : ∃ no, no = old.length := ⟨_, rfl⟩
  obtain ⟨nn, hnn⟩ : ∃ nn, nn = new.length := ⟨_, rfl⟩
  rw [← hnx] at hc gx HA ⊢
  rw [← hno] at hco go HO ⊢
  rw [← hnn] at hcn gn HN ⊢
  have HL := Lib.hid (And.intro hnx.symm (And.intro hno.symm hnn.symm))
  clear hnx hno hnn
  go_enter Try.func6, Try.ntmps6
  go_wp2_with fail
  have hst := HSt.start w p Ao no co An nn cn
  obtain ⟨hb, hhb⟩ : ∃ hb, hb = w.heap.size := ⟨_, rfl⟩
  refine (head_any _).mono ?_
  rintro e w1 ⟨rfl, hB⟩
  have HS1 := Lib.hid (hst.below hB)
  rw [← hhb] at HS1 ⊢
  clear hst hB hhb
  go_wp2_with fail
  obtain ⟨r, hr, hcall⟩ := great_n nx 0 c 0 x [] A none w1 HL.out.1 rfl (Kd.C_below HA.out HS1.out.bel) hc (Kd.C_nil _ _) (by decide) gx (by decide)
  refine hcall.mono ?_
  clear hcall
  rintro e w2 ⟨rfl, hB⟩
  have HS2 := Lib.hid (HS1.out.below hB)
  clear hB HS1
  cases r with
  | true =>
    clear hr
    go_wp2_with fail
    go_ret
    exact ⟨rfl, HS2.out.bel⟩
  | false =>
    obtain ⟨hx200, _⟩ := hr rfl
    clear hr
    obtain ⟨k0, k1, k2, kl⟩ := HS2.out.cells
    go_wp2_with fail
    obtain ⟨r, hr, hcall⟩ := greatHunk_n p no nn co cn old new Ao An w2 HL.out.2.1 HL.out.2.2 (Kd.C_below HO.out HS2.out.bel) hco (Kd.C_below HN.out HS2.out.bel) hcn go gn
    refine hcall.mono ?_
    clear hcall
    rintro e w3 ⟨rfl, hB⟩
    have HS3 := Lib.hid (HS2.out.below hB)
    clear hB HS2 k0 k1 k2 kl
    cases r with
    | true =>
      clear hr
      go_wp2_with fail
      go_ret
      exact ⟨rfl, HS3.out.bel⟩
    | false =>
      obtain ⟨ho200, hn200⟩ := hr rfl
      clear hr
      obtain ⟨k0, k1, k2, kl⟩ := HS3.out.cells
      go_wp2_with fail
      refine (apply_n nx no nn c co cn w3 A Ao An x old new p HL.out.1 HL.out.2.1 HL.out.2.2 (Kd.C_below HA.out HS3.out.bel) hc (Kd.C_below HO.out HS3.out.bel) hco (Kd.C_below HN.out HS3.out.bel) hcn (by omega) (by omega) (by omega)).mono ?_
      rintro e w4 ⟨v, rfl, hR, hB⟩
      have HS4 := Lib.hid (HS3.out.below hB)
      clear hB HS3 k0 k1 k2 kl
      cases hap : appliedI x p old new with
      | none =>
        rw [hap] at hR
        obtain ⟨Av, cv, rfl, _, _, _⟩ := R_addr hR
        clear hap hR
        go_wp2_with fail
        go_ret
        exact ⟨rfl, HS4.out.bel⟩
      | some y =>
        rw [hap] at hR
        obtain ⟨Av, cv, rfl, hcv, hCv, _⟩ := R_addr hR
        have hinv : ∃ q r : List ByteArray, x = q ++ old ++ r ∧ y = q ++ new ++ r ∧ (q.length : Int) = p := by
          unfold appliedI at hap
          split at hap
          · obtain ⟨q, r, e1, e2, e3⟩ := applied_inv hap
            exact ⟨q, r, e1, e2, by simp only at e3; omega⟩
          · cases hap
        obtain ⟨q, r, e1, e2, e3⟩ := hinv
        have hback : appliedI y p new old = some x := by
          rw [← e3, appliedI_nat, e2, e1]
          exact applied_at q r ⟨q.length, new, old⟩ rfl
        have hyl : y.length = nx - no + nn := by
          have h1 := congrArg List.length e1
          have h2 := congrArg List.length e2
          simp only [List.length_append, HL.out.1, HL.out.2.1, HL.out.2.2] at h1 h2
          omega
        have hno : no ≤ nx := by
          have h1 := congrArg List.length e1
          simp only [List.length_append, HL.out.1, HL.out.2.1] at h1
          omega
        have hcv' : y.length ≤ cv := hcv
        have hCv' : Kd.string.C w4 Av y.length y := hCv
        rw [hyl] at hcv' hCv'
        have HCV := Lib.hid hCv'
        have HBK := Lib.hid (And.intro hback hyl)
        have hsel : ((some y : Option (List ByteArray)).getD []).length = nx - no + nn := hyl
        rw [hsel]
        obtain ⟨ny, hny⟩ : ∃ ny, ny = nx - no + nn := ⟨_, rfl⟩
        rw [← hny] at hcv' HCV HBK ⊢
        have hny2 : (ny : Int) = (nx : Int) - (no : Int) + (nn : Int) := by omega
        have HNY := Lib.hid hny2
        have hnyb : ny ≤ 400 := by omega
        clear hap hR hcv hCv e1 e2 e3 hback hyl hCv' hsel hny hny2
        obtain ⟨k0, k1, k2, kl⟩ := HS4.out.cells
        go_wp2_with fail
        refine (apply_n ny nn no cv cn co w4 Av An Ao y new old p HBK.out.2 HL.out.2.2 HL.out.2.1 HCV.out hcv' (Kd.C_below HN.out HS4.out.bel) hcn (Kd.C_below HO.out HS4.out.bel) hco (by omega) (by omega) (by omega)).mono ?_
        rw [HBK.out.1]
        rintro e w5 ⟨v, rfl, hR, hB⟩
        obtain ⟨Az, cz, rfl, hcz, hCz, _⟩ := R_addr hR
        have HS5 := Lib.hid (HS4.out.below hB)
        have hsel : ((some x : Option (List ByteArray)).getD []).length = nx := HL.out.1
        have hcz' : nx ≤ cz := by rw [← hsel]; exact hcz
        have hCz' : Kd.string.C w5 Az nx x := by have := hCz; rw [hsel] at this; exact this
        rw [hsel]
        have HCZ := Lib.hid hCz'
        clear hB HS4 k0 k1 k2 kl hR hcz hCz hCz' hsel
        obtain ⟨k0, k1, k2, kl⟩ := HS5.out.cells
        go_wp2_with fail
        refine (lsame_n nx nx cz c x x Az A w5 HL.out.1 HL.out.1 HCZ.out hcz' (Kd.C_below HA.out HS5.out.bel) hc (by omega)).mono ?_
        rw [decide_eq_true rfl]
        rintro e w6 ⟨rfl, hB⟩
        have HS6 := Lib.hid (HS5.out.below hB)
        clear hB HS5 k0 k1 k2 kl
        obtain ⟨k0, k1, k2, kl⟩ := HS6.out.cells
        have hfin : ((ny : Int) == (nx : Int) - (no : Int) + (nn : Int)) = true := by rw [beq_iff_eq]; exact HNY.out
        go_wp2_with fail
        go_ret
        exact ⟨rfl, HS6.out.bel⟩
end Go.Proofs.Ytjclpepdjnffaaa
