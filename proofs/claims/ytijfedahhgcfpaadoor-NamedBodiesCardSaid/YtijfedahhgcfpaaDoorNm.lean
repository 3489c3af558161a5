/- The live question of chapter 13. -/
import Derived.Test.YtijfedahhgcfpaaDoorNl
import Derived.Test.YtijfedahhgcfpaaDoorNamI
import Derived.Lib.SlBytesConst
import Derived.Test.YtijfedahhgcfpaaDoorNamG
import Derived.Test.YtijfedahhgcfpaaDoorRows
import Derived.Stop.LaidErr
import Derived.Lib.LaidTab
import Derived.LaidSub
import Derived.LaidMore
import Derived.Lay
import Derived.Shelf.Vars
set_option linter.unusedVariables false
set_option linter.unusedSimpArgs false
namespace Go.Proofs.YtijfedahhgcfpaaDoor
open Go.RowKit Go.Proofs.YtijfedahhgcfpaaDoorW.PrintWords Go.Proofs.YtijfedahhgcfpaaDoorW.PrintLast

def P1 : Pat := ⟨⟨#[114, 46, 49]⟩, [⟨#[113]⟩], [⟨1, ⟨#[97]⟩, ⟨#[]⟩, ⟨#[]⟩, 0, [], []⟩]⟩
def P2 : Pat := ⟨⟨#[97]⟩, [⟨#[97]⟩], []⟩
def L1 : List UInt8 := [51, 58, 114, 46, 49, 49, 58, 49, 58, 113, 49, 58, 49, 58, 49, 58, 97, 48, 58, 48, 58, 48, 58, 48, 58, 48, 58]
theorem numI_small (n : Nat) (h : n < 10) : numI (n : Int) = [UInt8.ofNat (48 + n), 58] := by
  rw [numI_nat]
  unfold numE
  rw [decDigits_small h]
  rfl
theorem patE1 : patE P1 = L1 := by
  have e : patE P1 = (numI ((3 : Nat) : Int) ++ [114, 46, 49]) ++ ((numI ((1 : Nat) : Int) ++ ((numI ((1 : Nat) : Int) ++ [113]) ++ [])) ++ (numI ((1 : Nat) : Int) ++ ((numI ((1 : Nat) : Int) ++ ((numI ((1 : Nat) : Int) ++ [97]) ++ ((numI ((0 : Nat) : Int) ++ []) ++ ((numI ((0 : Nat) : Int) ++ []) ++ (numI ((0 : Nat) : Int) ++ ((numI ((0 : Nat) : Int) ++ []) ++ (numI ((0 : Nat) : Int) ++ []))))))) ++ []))) := rfl
  rw [e, numI_small 3 (by omega), numI_small 1 (by omega), numI_small 0 (by omega)]
  rfl
theorem patR1 : patR P1 = true := by kernel_rfl
theorem patR2 : patR P2 = false := by kernel_rfl
theorem listP_nil : listP textP [] = none := by
  unfold listP numP
  rw [if_neg]
  · rfl
  · rintro ⟨h, _⟩
    revert h
    decide
theorem getP3 : getP [51, 58, 97, 98, 99] = none := by
  have e : ([51, 58, 97, 98, 99] : List UInt8) = textE ⟨#[97, 98, 99]⟩ ++ [] := by
    rw [List.append_nil]
    have : textE ⟨#[97, 98, 99]⟩ = numI ((3 : Nat) : Int) ++ [97, 98, 99] := rfl
    rw [this, numI_small 3 (by omega)]
    rfl
  unfold getP patP
  rw [e, codec_text.enc _ _ (by unfold textOk; decide)]
  simp only [Option.bind_some]
  rw [listP_nil]
  rfl
theorem patOk1 : patOk P1 := by
  unfold patOk P1
  refine ⟨by unfold textOk; decide, ⟨by decide, fun x hx => ?_⟩, ⟨by decide, fun x hx => ?_⟩⟩
  · rw [List.mem_singleton] at hx
    subst hx
    unfold textOk
    decide
  · rw [List.mem_singleton] at hx
    subst hx
    refine ⟨⟨by decide, by decide⟩, by unfold textOk; decide, by unfold textOk; decide, by unfold textOk; decide, ⟨by decide, by decide⟩, ⟨by decide, fun x hx => by cases hx⟩, ⟨by decide, fun x hx => by cases hx⟩⟩
theorem patP_enc {p q : Pat} {r : List UInt8} (hp : patOk p) (h : patP (patE p) = some (q, r)) : q = p ∧ r = [] := by
  have := codec_pat.enc p [] hp
  rw [List.append_nil, h] at this
  exact ⟨(Prod.mk.inj (Option.some.inj this)).1, (Prod.mk.inj (Option.some.inj this)).2⟩
theorem prms_C {W : World} {g : Nat} {t : TypeId} {fr : Nat × Nat} (x : Prm) {A5 A6 : Option Addr} {c5 c6 : Nat} (l5 : x.f5.length ≤ c5) (g5 : Kd.string.C W A5 x.f5.length x.f5) (l6 : x.f6.length ≤ c6) (g6 : Kd.string.C W A6 x.f6.length x.f6)
    (hb : W.heap[g]? = some (.cells #[.int .i64 x.f0, .string x.f1, .string x.f2, .string x.f3, .int .i64 x.f4, .slice A5 x.f5.length c5, .slice A6 x.f6.length c6] t fr)) : Kd.C kPrm W (some ⟨g, 0, none⟩) 1 [x] := by
  refine ⟨rfl, by omega, fun _ => ⟨_, rfl, fun j y hj => ?_⟩⟩
  cases j with
  | succ j => simp at hj
  | zero =>
    obtain rfl : x = y := by simpa using hj
    refine ⟨[.int .i64 x.f0, .string x.f1, .string x.f2, .string x.f3, .int .i64 x.f4, .slice A5 x.f5.length c5, .slice A6 x.f6.length c6], rfl, PNamedBack.k39_mk W x l5 g5 l6 g6, fun i u hu => ?_⟩
    have e : ((⟨g, 0, none⟩ : Addr).add (0 * kPrm.sz + i)) = ⟨g, i, none⟩ := by rw [Nat.zero_mul, Nat.zero_add]; cases i <;> simp [Addr.add]
    rw [e]
    have := cell_of_row _ _ i _ _ _ hb
    rw [this]
    simpa using hu
theorem lit_C {W : World} {g : Nat} {t : TypeId} {fr : Nat × Nat} (l : List UInt8) (n : Nat) (hn : l.length = n) (hb : n ≤ 1000000000) (h : W.heap[g]? = some (.cells ((nmI l).map (Value.int .u8)).toArray t fr)) : Kd.C (Kd.int .u8) W (some ⟨g, 0, none⟩) n (nmI l) := by
  refine Kd.C_of_reads (d := (0 : Int)) ⟨by rw [nmI_length]; exact hn, by omega, fun _ => ⟨_, rfl, fun j hj => ?_⟩⟩
  rw [show (⟨g, 0, none⟩ : Addr).add j = ⟨g, j, none⟩ by cases j <;> simp [Addr.add]]
  rw [cell_of_row _ _ _ _ _ _ h]
  have : j < (nmI l).length := by rw [nmI_length]; omega
  simp [this]
theorem labX : labelB ⟨#[120, 45, 49]⟩ = true := by kernel_rfl
theorem labE : labelB ⟨#[]⟩ = false := by kernel_rfl
theorem eqL1 : ((baN L1).toList == ([51, 58, 114, 46, 49, 49, 58, 49, 58, 113, 49, 58, 49, 58, 49, 58, 97, 48, 58, 48, 58, 48, 58, 48, 58, 48, 58] : List UInt8)) = true := by rw [ByteArray.toList_eq]; rfl
theorem eqQ : ((⟨#[113]⟩ : ByteArray).toList == ([113] : List UInt8)) = true := by rw [ByteArray.toList_eq]; rfl
set_option maxRecDepth 100000 in
set_option maxHeartbeats 16000000 in
theorem head_any (w : World) (hG : Ground w) : Calls Tryd.prog 7 #[] w fun e w' => e = .returned (.bool true) ∧ Below w.heap.size w w' := by
  have HG := Lib.hid hG
  clear hG
  obtain ⟨w1, hw1⟩ : ∃ w1, w1 = w.alloc (.cells #[.string ⟨#[113]⟩] 9) := ⟨_, rfl⟩
  obtain ⟨w2, hw2⟩ : ∃ w2, w2 = w1.alloc (.cells #[.int .i64 1, .string ⟨#[97]⟩, .string ⟨#[]⟩, .string ⟨#[]⟩, .int .i64 0, .slice none 0 0, .slice none 0 0] 39) := ⟨_, rfl⟩
  have hb1 : w1.heap[w.heap.size]? = some (.cells #[.string ⟨#[113]⟩] 9 (0, 0)) := by rw [hw1]; exact heap_alloc_new w _
  have hs1 : w1.heap.size = w.heap.size + 1 := by rw [hw1]; simp
  have hB1 : Below w.heap.size w w1 := by rw [hw1]; exact (Below.refl _ _).alloc (Nat.le_refl _) _
  have hB2 : Below w1.heap.size w1 w2 := by rw [hw2]; exact (Below.refl _ _).alloc (Nat.le_refl _) _
  have hb2 : w2.heap[w1.heap.size]? = some (.cells #[.int .i64 1, .string ⟨#[97]⟩, .string ⟨#[]⟩, .string ⟨#[]⟩, .int .i64 0, .slice none 0 0, .slice none 0 0] 39 (0, 0)) := by rw [hw2]; exact heap_alloc_new w1 _
  have hB02 := hB1.trans (hB2.mono hB1.size)
  have hD : Kd.string.C w2 (some ⟨w.heap.size, 0, none⟩) 1 P1.deps := strs_C [⟨#[113]⟩] 1 rfl (by omega) (blk_below hb1 hB2)
  have hP : Kd.C kPrm w2 (some ⟨w.heap.size + 1, 0, none⟩) 1 P1.body := by
    rw [← hs1]
    exact prms_C ⟨1, ⟨#[97]⟩, ⟨#[]⟩, ⟨#[]⟩, 0, [], []⟩ (c5 := 0) (c6 := 0) (Nat.le_refl _) (Kd.C_nil _ _) (Nat.le_refl _) (Kd.C_nil _ _) hb2
  have hbs : ∀ x ∈ P1.body, sizesOk x := fun x hx => by
    rw [show P1.body = [⟨1, ⟨#[97]⟩, ⟨#[]⟩, ⟨#[]⟩, 0, [], []⟩] from rfl, List.mem_singleton] at hx
    subst hx
    unfold sizesOk
    decide
  have hput := put_any P1 (some ⟨w.heap.size, 0, none⟩) (some ⟨w.heap.size + 1, 0, none⟩) 1 1 1 1 w2 rfl rfl hD hP hbs (by omega) (by omega) (fun _ => by rw [patE1]; decide) (HG.out.below hB02)
  have hpl : putL P1 = L1 := by unfold putL; rw [if_pos patR1, patE1]
  have hpc : putC P1 = 0 := by unfold putC; rw [if_pos patR1]
  rw [hpl, hpc] at hput
  have HP := Lib.hid hput
  have HB02 := Lib.hid hB02
  have HW := Lib.hid (And.intro hw1 hw2)
  have hget : getP L1 = some P1 := by rw [← patE1]; exact getP_put patOk1 patR1
  have hgq : getQ L1 = P1 := by unfold getQ; rw [hget]; rfl
  have hgc : getC L1 = 0 := by unfold getC; rw [hget]; rfl
  have hszs : ∀ p, patP L1 = some (p, []) → p.deps.length ≤ 1000000000 ∧ p.body.length ≤ 1000000000 ∧ ∀ x ∈ p.body, sizesOk x := fun p hp => by
    rw [← patE1] at hp
    obtain ⟨rfl, _⟩ := patP_enc patOk1 hp
    exact ⟨by decide, by decide, hbs⟩
  have HGET := Lib.hid (And.intro hgq (And.intro hgc hszs))
  have HBS := Lib.hid hbs
  clear hput hpl hpc hB02 hw1 hw2 hb1 hs1 hB1 hB2 hb2 hD hP hget hgq hgc hszs hbs
  go_enter Tryd.func7, Tryd.ntmps7
  go_wp2_with fail
  rw [← HW.out.1, ← HW.out.2]
  refine HP.out.mono ?_
  rintro e w3 ⟨v3, rfl, hb3, hB3⟩
  obtain ⟨A3, c3, rfl, hc3, hC3⟩ := hb3
  have HB3 := Lib.hid (HB02.out.trans (hB3.mono HB02.out.size))
  have hg3 := get_any A3 L1.length c3 L1 rfl w3 hC3 (by decide) HGET.out.2.2 (HG.out.below HB3.out)
  rw [HGET.out.1, HGET.out.2.1] at hg3
  have HG3 := Lib.hid (And.intro hg3 hC3)
  clear hB3 hg3 hC3 hc3
  go_wp2_with fail
  refine HG3.out.1.mono ?_
  rintro e w4 ⟨v1, v2, rfl, hR1, hR2, hB4⟩
  obtain ⟨A1, d1, e1, hl1, hCd⟩ := Kd.R_reads hR1
  subst e1
  obtain ⟨A2, d2, e2⟩ := Kd.R_slice hR2
  subst e2
  have HB4 := Lib.hid (And.intro hCd hB4)
  clear hR1 hR2 hB4 hCd hl1
  go_wp2_with fail
  obtain ⟨w5, hw5⟩ : ∃ w5, w5 = w4.alloc (.cells #[.string P1.name, .slice A1 P1.deps.length d1, .slice A2 P1.body.length d2] 25) := ⟨_, rfl⟩
  have hz5 : w4.heap.size + 1 = w5.heap.size := by rw [hw5]; simp
  rw [← hw5, hz5]
  have hb5 : w5.heap[w4.heap.size]? = some (.cells #[.string P1.name, .slice A1 P1.deps.length d1, .slice A2 P1.body.length d2] 25 (0, 0)) := by rw [hw5]; exact heap_alloc_new w4 _
  have hB45 : Below w4.heap.size w4 w5 := by rw [hw5]; exact (Below.refl _ _).alloc (Nat.le_refl _) _
  have hB35 : Below w3.heap.size w3 w5 := HB4.out.2.trans (hB45.mono HB4.out.2.size)
  have HC5 := Lib.hid (And.intro (Kd.C_below HG3.out.2 hB35) (Kd.C_below HB4.out.1 hB45))
  have HB5 := Lib.hid (HB3.out.trans (hB35.mono HB3.out.size))
  have HP5 := Lib.hid hb5
  obtain ⟨pb, hpb⟩ : ∃ pb, pb = w4.heap.size := ⟨_, rfl⟩
  rw [← hpb] at HP5 ⊢
  clear hz5 hb5 hB45 hB35 hw5 hpb HB4
  rw [Lib.run_convert_bytes_const w5 26 5 #[.int .u8 51, .int .u8 58, .int .u8 97, .int .u8 98, .int .u8 99] 5 5 Tryd.underlying26 Tryd.underlying5]
  simp only [Result.andThen]
  rw [Oper.upon_value]
  go_wp2_with fail
  obtain ⟨w6, hw6⟩ : ∃ w6, w6 = w5.alloc (.cells #[.int .u8 51, .int .u8 58, .int .u8 97, .int .u8 98, .int .u8 99] 5 (5, 6)) := ⟨_, rfl⟩
  rw [← hw6]
  have hB56 : Below w5.heap.size w5 w6 := by rw [hw6]; exact (Below.refl _ _).alloc (Nat.le_refl _) _
  have hC6 : Kd.C (Kd.int .u8) w6 (some ⟨w5.heap.size, 0, none⟩) 5 (nmI [51, 58, 97, 98, 99]) := lit_C [51, 58, 97, 98, 99] 5 rfl (by omega) (by rw [hw6]; exact heap_alloc_new w5 _)
  have HB6 := Lib.hid (HB5.out.trans (hB56.mono HB5.out.size))
  have hg6 := get_any (some ⟨w5.heap.size, 0, none⟩) 5 5 [51, 58, 97, 98, 99] rfl w6 hC6 (by decide) (fun p hp => by
    exfalso
    have h := codec_pat.dec _ _ _ hp
    have e : ([51, 58, 97, 98, 99] : List UInt8) = textE ⟨#[97, 98, 99]⟩ ++ [] := by
      rw [List.append_nil]
      have : textE ⟨#[97, 98, 99]⟩ = numI ((3 : Nat) : Int) ++ [97, 98, 99] := rfl
      rw [this, numI_small 3 (by omega)]
      rfl
    unfold patP at hp
    rw [e, codec_text.enc _ _ (by unfold textOk; decide)] at hp
    simp only [Option.bind_some] at hp
    rw [listP_nil] at hp
    cases hp) (HG.out.below HB6.out)
  rw [show getQ [51, 58, 97, 98, 99] = ⟨⟨#[]⟩, [], []⟩ by unfold getQ; rw [getP3]; rfl, show getC [51, 58, 97, 98, 99] = 3 by unfold getC; rw [getP3]; rfl] at hg6
  have HG6 := Lib.hid hg6
  have HC6 := Lib.hid (And.intro (Kd.C_below HC5.out.1 hB56) (Kd.C_below HC5.out.2 hB56))
  have HP6 := Lib.hid (blk_below HP5.out hB56)
  clear hg6 hC6 hB56 hw6 HP5 HC5
  refine HG6.out.mono ?_
  rintro e w7 ⟨v5, v6, rfl, hR5, hR6, hB7⟩
  obtain ⟨A5, d5, e5⟩ := Kd.R_slice hR5
  subst e5
  obtain ⟨A6, d6, e6⟩ := Kd.R_slice hR6
  subst e6
  have HB7 := Lib.hid (HB6.out.trans (hB7.mono HB6.out.size))
  have HC7 := Lib.hid (And.intro (Kd.C_below HC6.out.1 hB7) (Kd.C_below HC6.out.2 hB7))
  have HP7 := Lib.hid (blk_below HP6.out hB7)
  clear hR5 hR6 hB7 HC6 HP6
  go_wp2_with fail
  obtain ⟨w8, hw8⟩ : ∃ w8, w8 = w7.alloc (.cells #[.string ⟨#[]⟩, .slice A5 0 d5, .slice A6 0 d6] 25) := ⟨_, rfl⟩
  obtain ⟨w9, hw9⟩ : ∃ w9, w9 = w8.alloc (.cells #[.string ⟨#[97]⟩] 9) := ⟨_, rfl⟩
  have hz8 : w7.heap.size + 1 = w8.heap.size := by rw [hw8]; simp
  have hb9 : w9.heap[w8.heap.size]? = some (.cells #[.string ⟨#[97]⟩] 9 (0, 0)) := by rw [hw9]; exact heap_alloc_new w8 _
  have hB78 : Below w7.heap.size w7 w8 := by rw [hw8]; exact (Below.refl _ _).alloc (Nat.le_refl _) _
  have hB89 : Below w8.heap.size w8 w9 := by rw [hw9]; exact (Below.refl _ _).alloc (Nat.le_refl _) _
  have hB79 := hB78.trans (hB89.mono hB78.size)
  have HB9 := Lib.hid (HB7.out.trans (hB79.mono HB7.out.size))
  have HC9 := Lib.hid (And.intro (Kd.C_below HC7.out.1 hB79) (Kd.C_below HC7.out.2 hB79))
  have HP9 := Lib.hid (blk_below HP7.out hB79)
  have hp9 := put_any P2 (some ⟨w8.heap.size, 0, none⟩) none 1 0 1 0 w9 rfl rfl (strs_C [⟨#[97]⟩] 1 rfl (by omega) hb9) (Kd.C_nil _ _) (fun x hx => by cases hx) (by omega) (by omega) (fun h => by rw [patR2] at h; cases h) (HG.out.below HB9.out)
  rw [show putL P2 = [] by unfold putL; rw [if_neg (by rw [patR2]; decide)], show putC P2 = 1 by unfold putC; rw [if_neg (by rw [patR2]; decide)]] at hp9
  have HPP := Lib.hid hp9
  rw [← hw8, hz8, ← hw9]
  clear hz8 hb9 hB78 hB89 hB79 hp9 hw8 hw9 HC7 HP7
  refine HPP.out.mono ?_
  rintro e w10 ⟨v10, rfl, hb10, hB10⟩
  obtain ⟨A10, d10, e10, _, _⟩ := hb10
  subst e10
  have HB10 := Lib.hid (HB9.out.trans (hB10.mono HB9.out.size))
  have hC10 := And.intro (Kd.C_below HC9.out.1 hB10) (Kd.C_below HC9.out.2 hB10)
  have hP10 := blk_below HP9.out hB10
  obtain ⟨z0, z1, z2⟩ := cells3p hP10
  have gl := blk_lt hP10
  have hst : (convert 26 9 (.slice A3 L1.length c3)).run Tryd.prog w10 = .ok (.string (baN L1)) w10 := by
    rw [← strOf_nmI L1]
    exact Kd.C_string Tryd.underlying26 Tryd.underlying5 Tryd.underlying9 hC10.1
  obtain ⟨ad, ea, hc⟩ := at_str hC10.2 0 (by decide)
  have hc0 : w10.cell? (ad.add 0) = some (.string ⟨#[113]⟩) := hc
  rw [show ad.add 0 = ad from rfl] at hc0
  subst ea
  have hl1 := labX
  have hl2 := labE
  have h1 := eqL1
  have h2 := eqQ
  have HL := Lib.hid (fun s W => label_any s W)
  have hd1 : P1.deps.length = 1 := rfl
  have hd2 : P1.body.length = 1 := rfl
  rw [hd1] at z1
  rw [hd2] at z2
  clear hB10 hC10 hP10 hc HC9 HP9
  go_wp2_with fail
  have hla := HL.out ⟨#[120, 45, 49]⟩ w10
  rw [hl1] at hla
  refine hla.mono ?_
  clear hla
  rintro e w11 ⟨rfl, hB11⟩
  have HB11 := Lib.hid (HB10.out.trans (hB11.mono HB10.out.size))
  clear hB11
  go_wp2_with fail
  have hla := HL.out ⟨#[]⟩ w11
  rw [hl2] at hla
  refine hla.mono ?_
  clear hla
  rintro e w12 ⟨rfl, hB12⟩
  have HB12 := Lib.hid (HB11.out.trans (hB12.mono HB11.out.size))
  clear hB12
  go_wp2_with fail
  go_ret
  exact ⟨rfl, HB12.out⟩
end Go.Proofs.YtijfedahhgcfpaaDoor
/- What a row of chapter 13 gives of the library's own variables. -/
set_option linter.unusedVariables false
namespace Go.Proofs.YtijfedahhgcfpaaDoor
open Go.RowKit

theorem cell0_of (W : World) (h : W.ShapedOpen Tryd.prog) : ∃ m, W.cell? ⟨0, 0, none⟩ = some (.int .i64 m) := Go.Proofs.cell_of_shapedOpen_int (zero := #[.int .i64 0]) (t := 3) h (of_decide_eq_true (by kernel_rfl)) (by kernel_rfl) rfl (by kernel_rfl) (by kernel_rfl) Tryd.underlying3
theorem tabG : Tryd.prog.globalNamed "internal/strconv.uint64pow10" = some 1 := by kernel_rfl
theorem tabT : (Tryd.prog.globals[1]?).map (·.type) = some 110 := by kernel_rfl
set_option maxRecDepth 100000 in
theorem ground_of (W : World) (hsh : W.ShapedOpen Tryd.prog) (h : laidMetH Tryd.prog Rows.namedBackRow.laid W) : Ground W := by
  rw [MakeChecks.laidMetH_plain _ _ _ (by kernel_rfl)] at h
  have h1 : laidMet Tryd.prog (("internal/strconv.uint64pow10", Lib.tabData .u64 Lib.pow10Tab) :: [("unicode/utf8.acceptRanges", Rows.laid_unicode_utf8_acceptRanges), ("unicode/utf8.first", Rows.laid_unicode_utf8_first)]) W := (laidMet.tail (laidMet.tail h))
  exact ⟨cell0_of W hsh, Lib.tabIs_of_head tabG tabT Tryd.underlying110 Tryd.underlying104 (by kernel_rfl) (by kernel_rfl) h1⟩
end Go.Proofs.YtijfedahhgcfpaaDoor
