/- The live question of chapter 06's statements. -/
import Derived.Test.YtjclpepdjnffaaaDiffW10
set_option linter.unusedVariables false
set_option linter.unusedSimpArgs false
namespace Go.Proofs.Ytjclpepdjnffaaa
open Go.RowKit Go.Proofs.YtjclpepdjnffaaaW.PrintWords Go.Proofs.YtjclpepdjnffaaaW.PrintLast Go.Proofs.Ytjclpepdjnffaaa.PDiffTells

theorem hunks_head (x y z w : ByteArray) (h1 : ¬ y = w) (h2 : ¬ y = z) (h3 : ¬ z = w) (h5 : ¬ y = x) (h6 : ¬ x = w) (h7 : ¬ z = x) : hunks [x, y, z] [x, w, z] = [⟨1, [y], [w]⟩] := by
  have h4 : ¬ w = z := fun h => h3 h.symm
  simp [hunks, script_both, script_nil, script_del, script_ins, lcs_cons, lcs_nil, lcs_nil2, takeOut, putIn, h1, h2, h3, h4, h5, h6, h7]
/-- Strings in a block of their own read as a row. -/
theorem str_C {W : World} {b : Nat} {t : TypeId} {l : List ByteArray} (h : W.heap[b]? = some (.cells (l.map Value.string).toArray t (0, 0))) (hl : l.length ≤ 9223372036854775807) : Kd.string.C W (some ⟨b, 0, none⟩) l.length l := by
  refine ⟨rfl, hl, fun _ => ⟨_, rfl, fun j x hj => ⟨[.string x], rfl, rfl, fun k u hk => ?_⟩⟩⟩
  match k, hk with
  | 0, hk =>
    obtain rfl := Option.some.inj hk
    have e : ((⟨b, 0, none⟩ : Addr).add (j * Kd.string.sz + 0)) = ⟨b, j, none⟩ := by rw [addr_add]; simp [Kd.string, Kd.scalar]
    rw [e, blk_cell h]
    simp [hj]
/-- Hunks of the call's own read as a row. -/
theorem HkAt.C {w : World} {base : Nat} {v : Value} {hs : List (Hk ByteArray)} {vo vn : Nat → Value} (h : HkAt 9 24 w base v hs vo vn) (hl : hs.length ≤ 100000) : ∃ A c, v = .slice A hs.length c ∧ hs.length ≤ c ∧ Kd.C k24 w A hs.length (hs.map toS) := by
  by_cases h0 : hs = []
  · subst h0
    rcases h.rows.2 with ⟨rfl, _⟩ | ⟨g, cap, cur, rfl, _, _, hc, _, _, _⟩
    · exact ⟨none, 0, rfl, Nat.le_refl _, rfl, by simp, fun h => absurd h (Nat.lt_irrefl 0)⟩
    · exact ⟨_, cap, rfl, hc, rfl, by simp, fun h => absurd h (Nat.lt_irrefl 0)⟩
  · have hp : 0 < hs.length := List.length_pos_iff.2 h0
    obtain ⟨g, cap, rfl, hc, _, _, _⟩ := own_form h.rows hp
    refine ⟨_, cap, rfl, hc, by simp, by omega, fun _ => ⟨_, rfl, fun j p hj => ?_⟩⟩
    rw [List.getElem?_map] at hj
    obtain ⟨x, hx, rfl⟩ := Option.map_eq_some_iff.1 hj
    have hjl := (List.getElem?_eq_some_iff.1 hx).1
    have hgd : hs.getD j hk0 = x := by rw [List.getD_eq_getElem?_getD, hx]; rfl
    obtain ⟨q0, q1, q2⟩ := h.get g cap rfl hjl
    have ho := h.old j hjl
    have hn := h.new j hjl
    rw [hgd] at q0 ho hn
    obtain ⟨Ao, co, hvo, hco, hCo, _⟩ := R_addr ho
    obtain ⟨An, cn, hvn, hcn, hCn, _⟩ := R_addr hn
    refine ⟨[.int .i64 (x.pos : Int), vo j, vn j], rfl, by rw [hvo, hvn]; exact k24_mk w (toS x) hco hCo hcn hCn, fun k u hk => ?_⟩
    rw [addr_add, Nat.zero_add]
    match k, hk with
    | 0, hk => obtain rfl := Option.some.inj hk; exact q0
    | 1, hk => obtain rfl := Option.some.inj hk; exact q1
    | 2, hk => obtain rfl := Option.some.inj hk; exact q2
theorem cost_n (n c : Nat) (A : Option Addr) (l : List (Hk ByteArray)) (w : World) (hn : l.length = n) (hA : Kd.C k24 w A n (l.map toS)) (hc : n ≤ c) (h1 : n < 1000000) (h2 : costs l < 1000000000) :
    Calls Try.prog 18 #[.slice A n c] w fun e w' => e = .returned (.int .i64 (costs l : Int)) ∧ Below w.heap.size w w' := by
  subst hn
  have hl : (l.map toS).length = l.length := List.length_map ..
  have := diff_Cost.calls (l.length + 1) A c (l.map toS) (costs l : Int) w (by rw [hl]; exact hA) (by rw [hl]; exact hc) (cost_f l (by omega) (by omega))
  rw [hl] at this
  exact this
theorem rcost_n (n c : Nat) (A : Option Addr) (l : List (Hk ByteArray)) (w : World) (hn : l.length = n) (hA : Kd.C k24 w A n (l.map toS)) (hc : n ≤ c) (h1 : n < 1000000) (h2 : costs l < 1000000000) :
    Calls Try.prog 19 #[.slice A n c] w fun e w' => e = .returned (.int .i64 (costs l : Int)) ∧ Below w.heap.size w w' := by
  subst hn
  have hl : (l.map toS).length = l.length := List.length_map ..
  have := counterpaneref06_Cost.calls (l.length + 1) A c (l.map toS) (costs l : Int) w (by rw [hl]; exact hA) (by rw [hl]; exact hc) (rcost_f l (by omega) (by omega))
  rw [hl] at this
  refine this.mono ?_
  rintro e w' ⟨rfl, hD⟩
  exact ⟨rfl, hD.below⟩
def sx : ByteArray := ⟨#[120]⟩
def sy : ByteArray := ⟨#[121]⟩
def sz : ByteArray := ⟨#[122]⟩
def sw : ByteArray := ⟨#[119]⟩
def sa : ByteArray := ⟨#[97]⟩
def sb : ByteArray := ⟨#[98]⟩
set_option maxRecDepth 100000 in
set_option maxHeartbeats 8000000 in
theorem head_any (w : World) : Calls Try.prog 9 #[] w fun e w' => e = .returned (.bool true) ∧ Below w.heap.size w w' := by
  go_enter Try.func9, Try.ntmps9
  go_wp2_with fail
  have hB0 : Below w.heap.size w ((w.alloc (.cells #[.string sx, .string sy, .string sz] 9)).alloc (.cells #[.string sx, .string sw, .string sz] 9)) := ((Below.refl _ _).alloc (Nat.le_refl _) _).alloc (by simp) _
  have c1 : Kd.string.C ((w.alloc (.cells #[.string sx, .string sy, .string sz] 9)).alloc (.cells #[.string sx, .string sw, .string sz] 9)) (some ⟨w.heap.size, 0, none⟩) 3 [sx, sy, sz] := str_C (l := [sx, sy, sz]) ((heap_alloc_old _ _ (by simp)).trans (heap_alloc_new w _)) (by decide)
  have c2 : Kd.string.C ((w.alloc (.cells #[.string sx, .string sy, .string sz] 9)).alloc (.cells #[.string sx, .string sw, .string sz] 9)) (some ⟨w.heap.size + 1, 0, none⟩) 3 [sx, sw, sz] := str_C (l := [sx, sw, sz]) (by
    have := heap_alloc_new (w.alloc (.cells #[.string sx, .string sy, .string sz] 9)) (.cells #[.string sx, .string sw, .string sz] 9)
    rw [show (w.alloc (.cells #[.string sx, .string sy, .string sz] 9)).heap.size = w.heap.size + 1 by simp] at this
    exact this) (by decide)
  refine (diff_n 3 3 _ _ 3 _ 3 [sx, sy, sz] [sx, sw, sz] rfl rfl c1 c2 (by decide)).mono ?_
  clear c1 c2
  rintro e w1 ⟨v, vo, vn, rfl, hH, hB⟩
  rw [hunks_head sx sy sz sw (by decide) (by decide) (by decide) (by decide) (by decide) (by decide)] at hH
  have HB1 := Lib.hid (below_then hB0 (by simp; omega) hB)
  have HH1 := Lib.hid hH
  clear hB0 hB hH
  go_wp2_with fail
  have hBa : Below w1.heap.size w1 (((w1.alloc (.cells #[.string sx, .string sy] 9)).alloc (.cells #[.string sy] 9)).alloc (.cells #[.string sa, .string sb] 9)) := (((Below.refl _ _).alloc (Nat.le_refl _) _).alloc (by simp) _).alloc (by simp; omega) _
  have z1 : (w1.alloc (.cells #[.string sx, .string sy] 9)).heap.size = w1.heap.size + 1 := by simp
  have z2 : ((w1.alloc (.cells #[.string sx, .string sy] 9)).alloc (.cells #[.string sy] 9)).heap.size = w1.heap.size + 1 + 1 := by simp
  have y1 := heap_alloc_new w1 (.cells #[.string sx, .string sy] 9)
  have y2 := heap_alloc_new (w1.alloc (.cells #[.string sx, .string sy] 9)) (.cells #[.string sy] 9)
  have y3 := heap_alloc_new ((w1.alloc (.cells #[.string sx, .string sy] 9)).alloc (.cells #[.string sy] 9)) (.cells #[.string sa, .string sb] 9)
  rw [z1] at y2
  rw [z2] at y3
  have c1 : Kd.string.C (((w1.alloc (.cells #[.string sx, .string sy] 9)).alloc (.cells #[.string sy] 9)).alloc (.cells #[.string sa, .string sb] 9)) (some ⟨w1.heap.size, 0, none⟩) 2 [sx, sy] := str_C (l := [sx, sy]) ((heap_alloc_old _ _ (by simp; omega)).trans ((heap_alloc_old _ _ (by simp)).trans y1)) (by decide)
  have c2 : Kd.string.C (((w1.alloc (.cells #[.string sx, .string sy] 9)).alloc (.cells #[.string sy] 9)).alloc (.cells #[.string sa, .string sb] 9)) (some ⟨w1.heap.size + 1, 0, none⟩) 1 [sy] := str_C (l := [sy]) ((heap_alloc_old _ _ (by simp)).trans y2) (by decide)
  have c3 : Kd.string.C (((w1.alloc (.cells #[.string sx, .string sy] 9)).alloc (.cells #[.string sy] 9)).alloc (.cells #[.string sa, .string sb] 9)) (some ⟨w1.heap.size + 1 + 1, 0, none⟩) 2 [sa, sb] := str_C (l := [sa, sb]) y3 (by decide)
  clear y1 y2 y3 z1 z2
  refine (apply_n 2 1 2 2 1 2 _ _ _ _ [sx, sy] [sy] [sa, sb] 1 rfl rfl rfl c1 (by decide) c2 (by decide) c3 (by decide) (by decide) (by decide) (by decide)).mono ?_
  clear c1 c2 c3
  rw [show appliedI [sx, sy] 1 [sy] [sa, sb] = some [sx, sa, sb] from by simp [appliedI, applied]]
  rintro e w2 ⟨va, rfl, hR, hB⟩
  have HB2 := Lib.hid (below_then HB1.out HB1.out.size (below_then hBa (by simp; omega) hB))
  have HH2 := Lib.hid (HH1.out.below (below_then hBa (by simp; omega) hB))
  have HRA := Lib.hid hR
  clear hR hB hBa HB1 HH1
  go_wp2_with fail
  have hBa : Below w2.heap.size w2 ((w2.alloc (.cells #[.string sx] 9)).alloc (.cells #[.string sy] 9)) := ((Below.refl _ _).alloc (Nat.le_refl _) _).alloc (by simp) _
  have z1 : (w2.alloc (.cells #[.string sx] 9)).heap.size = w2.heap.size + 1 := by simp
  have y1 := heap_alloc_new w2 (.cells #[.string sx] 9)
  have y2 := heap_alloc_new (w2.alloc (.cells #[.string sx] 9)) (.cells #[.string sy] 9)
  rw [z1] at y2
  have c1 : Kd.string.C ((w2.alloc (.cells #[.string sx] 9)).alloc (.cells #[.string sy] 9)) (some ⟨w2.heap.size, 0, none⟩) 1 [sx] := str_C (l := [sx]) ((heap_alloc_old _ _ (by simp)).trans y1) (by decide)
  have c2 : Kd.string.C ((w2.alloc (.cells #[.string sx] 9)).alloc (.cells #[.string sy] 9)) (some ⟨w2.heap.size + 1, 0, none⟩) 1 [sy] := str_C (l := [sy]) y2 (by decide)
  clear y1 y2 z1
  refine (apply_n 1 1 0 1 1 0 _ _ _ _ [sx] [sy] [] 1 rfl rfl rfl c1 (by decide) c2 (by decide) (Kd.C_nil Kd.string _) (by decide) (by decide) (by decide) (by decide)).mono ?_
  clear c1 c2
  rw [show appliedI [sx] 1 [sy] [] = none from by simp [appliedI, applied]]
  rintro e w3 ⟨vb, rfl, hR, hB⟩
  have HB3 := Lib.hid (below_then HB2.out HB2.out.size (below_then hBa (by simp; omega) hB))
  have HH3 := Lib.hid (HH2.out.below (below_then hBa (by simp; omega) hB))
  have HRA3 := Lib.hid (Kd.R_below HRA.out (below_then hBa (by simp; omega) hB))
  clear hR hB hBa HB2 HH2 HRA
  obtain ⟨ga, ca, rfl, _, _, _⟩ := Kd.R_form HRA3.out (by decide)
  obtain ⟨_, _, hCa⟩ := Kd.R_reads' HRA3.out
  obtain ⟨A, c, hv, hcl, hC⟩ := HH3.out.C (by decide)
  obtain ⟨g, cap, rfl, _, _, hgl, _⟩ := own_form HH3.out.rows (by decide)
  obtain ⟨q0, q1, q2⟩ := HH3.out.get g cap rfl (i := 0) (by decide)
  obtain ⟨Ao, co, hvo, _, _, _⟩ := R_addr (HH3.out.old 0 (by decide))
  obtain ⟨gn, cn, hvn, _, _, _⟩ := Kd.R_form (HH3.out.new 0 (by decide)) (by decide)
  have hrn := HH3.out.new 0 (by decide)
  rw [hvn] at hrn
  obtain ⟨_, _, hCn⟩ := Kd.R_reads' hrn
  rw [hvo] at q1
  rw [hvn] at q2
  have hCa' : Kd.string.C w3 (some ⟨ga, 0, none⟩) 3 [sx, sa, sb] := hCa
  have hCn' : Kd.string.C w3 (some ⟨gn, 0, none⟩) 1 [sw] := hCn
  obtain ⟨ada, ea, p1⟩ := Kd.at_string hCa' 2 (by decide) (by decide)
  obtain ⟨adn, en, p2⟩ := Kd.at_string hCn' 0 (by decide) (by decide)
  obtain rfl := Option.some.inj ea
  obtain rfl := Option.some.inj en
  have hCC := hC
  injection hv with hv _ hv2
  subst hv
  subst hv2
  have HC := Lib.hid hC
  have q0' : w3.cell? ⟨g, 0, none⟩ = some (.int .i64 1) := q0
  have q1' : w3.cell? ⟨g, 1, none⟩ = some (.slice Ao 1 co) := q1
  have q2' : w3.cell? ⟨g, 2, none⟩ = some (.slice (some ⟨gn, 0, none⟩) 1 cn) := q2
  have p1' : w3.cell? ⟨ga, 2, none⟩ = some (.string sb) := by rw [addr_add] at p1; exact p1
  have p2' : w3.cell? ⟨gn, 0, none⟩ = some (.string sw) := by rw [addr_add] at p2; exact p2
  clear q0 q1 q2 p1 p2 hCa hCn hCa' hCn' hvo hvn hC hCC ea en hrn
  have hsw : (sw.toList == [119]) = true := by rw [ByteArray.toList_eq]; rfl
  have hsb : (sb.toList == [98]) = true := by rw [ByteArray.toList_eq]; rfl
  go_wp2_with fail
  refine (cost_n 1 cap _ _ w3 (by rfl) HC.out (by omega) (by decide) (by decide)).mono ?_
  rintro e w4 ⟨rfl, hB⟩
  have HB4 := Lib.hid (below_then HB3.out HB3.out.size hB)
  clear hB
  rw [show costs [(⟨1, [sy], [sw]⟩ : Hk ByteArray)] = 2 from rfl]
  go_wp2_with fail
  go_ret
  exact ⟨rfl, HB4.out⟩
end Go.Proofs.Ytjclpepdjnffaaa
