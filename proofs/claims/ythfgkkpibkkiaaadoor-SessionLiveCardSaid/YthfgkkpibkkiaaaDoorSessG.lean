/- The frame of bytes: a number and the blank behind it. -/
import Derived.Test.YthfgkkpibkkiaaaDoorSessF
import Derived.Lib.SlBytesConst
import Derived.Lib.SmallJoins
set_option linter.unusedVariables false
set_option linter.unusedSimpArgs false
namespace Go.Proofs.YthfgkkpibkkiaaaDoor
open Go.RowKit Go.Proofs.YthfgkkpibkkiaaaDoorW.PrintWords Go.Proofs.YthfgkkpibkkiaaaDoorW.PrintLast Go.Proofs.YthfgkkpibkkiaaaDoor.PSessionPlays

theorem bytesOf_nmI (l : List UInt8) : Lib.bytesOf (nmI l) = l := by
  unfold Lib.bytesOf nmI
  rw [List.map_map]
  conv => rhs; rw [← List.map_id l]
  apply List.map_congr_left
  intro b _
  simp
theorem strOf_nmI (l : List UInt8) : strOfNums (nmI l) = ⟨l.toArray⟩ := by
  have h : (strOfNums (nmI l)).data.toList = l := by
    rw [strOfNums_data]
    have := bytesOf_nmI l
    unfold Lib.bytesOf at this
    exact this
  generalize strOfNums (nmI l) = s at h
  obtain ⟨⟨x⟩⟩ := s
  have h' : x = l := h
  rw [h']
theorem nmI_range (l : List UInt8) : ∀ x ∈ nmI l, 0 ≤ x ∧ x < 256 := by
  intro x hx
  obtain ⟨b, _, rfl⟩ := List.mem_map.1 hx
  have := b.toNat_lt
  omega
theorem nmI_length (l : List UInt8) : (nmI l).length = l.length := by simp [nmI]
theorem nmI_take (l : List UInt8) (i : Nat) : nmI (l.take i) = (nmI l).take i := by simp [nmI]
theorem nmI_drop (l : List UInt8) (i : Nat) : nmI (l.drop i) = (nmI l).drop i := by simp [nmI]
theorem bytesIn_of {w : World} {A : Option Addr} {n : Nat} {l : List UInt8} (h : Kd.C (Kd.int .u8) w A n (nmI l)) : Lib.BytesIn w A n (nmI l) := by
  rcases Nat.eq_zero_or_pos n with h0 | h0
  · subst h0
    exact Lib.BytesIn.nil _ _ _
  · have hr := Kd.reads_of_C (enc := Value.int .u8) (d := (0 : Int)) (h1 := fun _ => rfl) h
    obtain ⟨ad, rfl, hc⟩ := hr.2.2 h0
    exact Lib.BytesIn.of_cells hc
/-- A number in front, up to a blank, and what is behind it. -/
def nextB (l : List UInt8) : Option (Int × List UInt8) :=
  if 0 ≤ Lib.index l [32] then
    match Lib.parseIntB 64 (l.take (Lib.index l [32]).toNat) with
    | .ok v => if v > 1099511627776 then none else some (v, l.drop ((Lib.index l [32]).toNat + 1))
    | _ => none
  else none
def nextV (l : List UInt8) : Int := match nextB l with | some (v, _) => v | none => -1
def nextL (l : List UInt8) : List UInt8 := match nextB l with | some (_, t) => t | none => l
/-- The rest, in its box. -/
def RestAt (w0 w : World) (rb : Nat) (l : List UInt8) : Prop := ∃ A n c, w.heap[rb]? = some (.cells #[.slice A n c] 22 (0, 0)) ∧ Kd.C (Kd.int .u8) w0 A n (nmI l) ∧ n ≤ c ∧ (A = none → c = 0) ∧ n = l.length
theorem parse_any (s : ByteArray) (hmax : s.size ≤ 1000000) (w : World) (hG : Ground w) :
    Calls Tryd.prog 38 #[.string s, .int .i64 10, .int .i64 64] w fun r w' => Below w.heap.size w w' ∧ ∃ v ev, r = .returned (.tuple #[.int .i64 v, ev]) ∧ ((Lib.parseIntB 64 s.data.toList = .ok v ∧ ev = .nilIface) ∨ ((∀ u, Lib.parseIntB 64 s.data.toList ≠ .ok u) ∧ ∃ q : Addr, ev = .iface 97 (.pointer (some q)))) := by
  obtain ⟨_, ⟨ev1, hs1, hs2⟩, ⟨ev2, hr1, hr2⟩, _⟩ := hG
  cases hp : Lib.parseIntB 64 s.data.toList with
  | ok v =>
    refine (Tryd.strconv_ParseInt_10_at64_ok s (by omega) v hp w).mono ?_
    rintro r w' ⟨rfl, hw⟩
    refine ⟨?_, v, .nilIface, rfl, .inl ⟨rfl, rfl⟩⟩
    rcases hw with rfl | ⟨t, rfl⟩
    · exact Below.refl _ _
    · exact Lib.bytesWorld_below _ _ _
  | «syntax» =>
    refine (Tryd.strconv_ParseInt_10_at64_syntax s (by omega) hp ev1 w hs1 hs2).mono ?_
    rintro r w' ⟨N, rfl, _, _, hB⟩
    exact ⟨hB, _, _, rfl, .inr ⟨(fun u h => by cases h), _, rfl⟩⟩
  | range =>
    refine (Tryd.strconv_ParseInt_10_at64_range s (by omega) hp ev2 w hr1 hr2).mono ?_
    rintro r w' ⟨N, rfl, _, _, hB⟩
    exact ⟨hB, _, _, rfl, .inr ⟨(fun u h => by cases h), _, rfl⟩⟩
set_option maxRecDepth 100000 in
set_option maxHeartbeats 8000000 in
theorem next_any (w0 w : World) (rb : Nat) (l : List UInt8) (hB : Below w0.heap.size w0 w) (hrb : w0.heap.size ≤ rb) (hR : RestAt w0 w rb l) (hG : Ground w) (hl : l.length ≤ 1000000) :
    Calls Tryd.prog 36 #[.pointer (some ⟨rb, 0, none⟩)] w fun r w' => r = .returned (.int .i64 (nextV l)) ∧ RestAt w0 w' rb (nextL l) ∧ Turns (fun k => k = rb) w w' := by
  obtain ⟨A, n, c, hb, hC, hc, hA, hn⟩ := hR
  have HGG := Lib.hid hG
  obtain ⟨⟨m, hm⟩, ⟨ev1, hs1, hs2⟩, ⟨ev2, hr1, hr2⟩, htab⟩ := hG
  have hc0 : w.cell? ⟨rb, 0, none⟩ = some (.slice A n c) := by simpa using blk_cell hb 0
  have hf0 := blk_frozen hb 0
  have hlt := blk_lt hb
  have HB := Lib.hid hB
  have HC := Lib.hid hC
  have HH := Lib.hid hb
  have HG := Lib.hid (And.intro hm (And.intro hs1 (And.intro hs2 (And.intro hr1 hr2))))
  have HA := Lib.hid (And.intro hA hn)
  clear hB hC hb hm hs1 hs2 hr1 hr2 hA hn htab
  go_enter Tryd.func36, Tryd.ntmps36
  go_wp2_with fail
  rw [Lib.run_convert_bytes_const w 22 5 #[.int .u8 32] 1 1 Tryd.underlying22 Tryd.underlying5]
  simp only [Result.andThen]
  rw [Oper.upon_value]
  obtain ⟨w1, hw1⟩ : ∃ w1, w1 = w.alloc (.cells #[.int .u8 32] 5 (1, 2)) := ⟨_, rfl⟩
  go_wp2_with fail
  rw [← hw1]
  have hB1 : Below w.heap.size w w1 := by rw [hw1]; exact (Below.refl _ _).alloc (Nat.le_refl _) _
  have hsep : Lib.BytesIn w1 (some ⟨w.heap.size, 0, none⟩) 1 [32] := by
    intro _
    refine ⟨w.heap.size, 0, rfl, fun i hi => ?_⟩
    obtain rfl : i = 0 := by omega
    rw [hw1]
    rw [Joins.cell_alloc_mark_at w _ _ _ _ _ rfl]
    rfl
  have hB01 : Below w0.heap.size w0 w1 := HB.out.trans (hB1.mono HB.out.size)
  have hcut := Tryd.bytes_Cut_all A (some ⟨w.heap.size, 0, none⟩) n c 1 1 (nmI l) [32] m w1 (by rw [nmI_length]; exact HA.out.2.symm) rfl (nmI_range l) (by intro y hy; simp at hy; omega) (bytesIn_of (Kd.C_below HC.out hB01)) hsep HA.out.1 hc (by have := HA.out.2; omega) (by omega) ((hB1.cell (p := ⟨0, 0, none⟩) (cell_lt HG.out.1)).trans HG.out.1)
  rw [bytesOf_nmI, show Lib.bytesOf [32] = [32] from rfl] at hcut
  have HCUT := Lib.hid hcut
  have HB1 := Lib.hid hB1
  have HB01 := Lib.hid hB01
  clear hw1 hcut hsep hB1 hB01
  obtain ⟨ix, hix⟩ : ∃ ix, ix = Lib.index l [32] := ⟨_, rfl⟩
  rw [← hix] at HCUT
  by_cases h0 : 0 ≤ ix
  · obtain ⟨i, rfl⟩ := Int.eq_ofNat_of_zero_le h0
    have hroom := Lib.index_room l [32] (by rw [← hix]; omega)
    rw [← hix] at hroom
    have hil : i + 1 ≤ l.length := by simp at hroom; omega
    have hcv : Lib.cutV A n c 1 (i : Int) = .tuple #[.slice A i c, .slice (if c = i + 1 then A else A.map (fun x => x.add (i + 1))) (n - (i + 1)) (c - (i + 1)), .bool true] := by unfold Lib.cutV; rw [if_pos h0]; rfl
    rw [hcv] at HCUT
    have hnb : nextB l = (match Lib.parseIntB 64 (l.take i) with | .ok v => if v > 1099511627776 then none else some (v, l.drop (i + 1)) | _ => none) := by
      unfold nextB
      rw [← hix, if_pos h0]
      rfl
    have HNB := Lib.hid hnb
    have HIL := Lib.hid hil
    have hnl : n = l.length := HA.out.2
    have hRH : Kd.C (Kd.int .u8) w0 A i (nmI (l.take i)) := by
      have h1 := Kd.C_take (k := Kd.int .u8) (m := i) (xs := nmI l) (A := A) (w := w0) (by rw [nmI_length, ← hnl]; exact HC.out) (by rw [nmI_length]; omega)
      rw [← nmI_take, nmI_length, List.length_take, Nat.min_eq_left (by omega)] at h1
      exact h1
    have hRT : Kd.C (Kd.int .u8) w0 (if c = i + 1 then A else A.map (fun x => x.add (i + 1))) (n - (i + 1)) (nmI (l.drop (i + 1))) := by
      have h1 := Kd.C_drop (k := Kd.int .u8) (m := i + 1) (c := c) (xs := nmI l) (A := A) (w := w0) (by rw [nmI_length, ← hnl]; exact HC.out) (by rw [nmI_length]; omega) (by rw [nmI_length]; omega)
      rw [← nmI_drop, nmI_length, List.length_drop] at h1
      rw [hnl]
      rw [show (Kd.int .u8).sz = 1 from rfl, Nat.mul_one] at h1
      exact h1
    have hAt : (if c = i + 1 then A else A.map (fun x => x.add (i + 1))) = none → c - (i + 1) = 0 := by
      intro hz
      split at hz
      · omega
      · have := HA.out.1 (by cases A with | none => rfl | some q => simp at hz)
        omega
    have hs2' : n - (i + 1) ≤ c - (i + 1) := by omega
    obtain ⟨A2, hA2⟩ : ∃ A2, A2 = (if c = i + 1 then A else A.map (fun x => x.add (i + 1))) := ⟨_, rfl⟩
    rw [← hA2] at hRT hAt HCUT
    obtain ⟨n2, hn2⟩ : ∃ n2, n2 = n - (i + 1) := ⟨_, rfl⟩
    rw [← hn2] at hRT HCUT hs2'
    obtain ⟨c2, hc2⟩ : ∃ c2, c2 = c - (i + 1) := ⟨_, rfl⟩
    rw [← hc2] at hAt HCUT hs2'
    have HN2 := Lib.hid (show n2 = (l.drop (i + 1)).length by rw [hn2, hnl, List.length_drop])
    have HRH := Lib.hid hRH
    have HRT := Lib.hid (And.intro hRT (And.intro hAt hs2'))
    clear hnb hil hroom hcv hix h0 hnl hRH hRT hAt hA2 hn2 hc2 hs2'
    refine HCUT.out.mono ?_
    rintro r w2 ⟨rfl, hq⟩
    have hB2 : Below w.heap.size w w2 := by obtain ⟨q, rfl⟩ := hq; exact pw_below_drewN HB1.out q
    have HB2 := Lib.hid hB2
    clear hq hB2
    go_wp2_with fail
    rw [Kd.C_string (e := 5) Tryd.underlying22 Tryd.underlying5 Tryd.underlying9 (Kd.C_below HRH.out (HB.out.trans (HB2.out.mono HB.out.size))), strOf_nmI]
    simp only [Result.andThen]
    rw [Oper.upon_value]
    have hpa := parse_any ⟨(l.take i).toArray⟩ (by show (l.take i).toArray.size ≤ _; simp; omega) w2 (Ground.below HGG.out HB2.out)
    have HPA := Lib.hid hpa
    clear hpa
    go_wp2_with fail
    refine HPA.out.mono ?_
    rintro r w3 ⟨hB3, v, ev, rfl, hor⟩
    have hB3' : Below w.heap.size w w3 := HB2.out.trans (hB3.mono HB2.out.size)
    have HB3 := Lib.hid hB3'
    have hc3 : w3.frozen? ⟨rb, 0, none⟩ = false := (hB3'.frozen (p := ⟨rb, 0, none⟩) hlt).trans hf0
    have hk3 : w3.cell? ⟨rb, 0, none⟩ = some (.slice A n c) := (hB3'.cell (p := ⟨rb, 0, none⟩) hlt).trans hc0
    clear hB3 hB3'
    rcases hor with ⟨hp, rfl⟩ | ⟨hp, q, rfl⟩
    · rw [hp] at HNB
      by_cases hbig : v > 1099511627776
      · have hno : nextB l = none := by rw [HNB.out]; exact if_pos hbig
        have HV := Lib.hid (And.intro (show nextV l = -1 by unfold nextV; rw [hno]) (show nextL l = l by unfold nextL; rw [hno]))
        clear hno hp
        have hbig' : (1099511627776 : Int) < v := hbig
        go_wp2_with fail
        go_ret
        rw [HV.out.1, HV.out.2]
        exact ⟨rfl, ⟨A, n, c, (HB3.out.block rb hlt).trans HH.out, HC.out, hc, HA.out⟩, Turns.of_below HB3.out _⟩
      · have hno : nextB l = some (v, l.drop (i + 1)) := by rw [HNB.out]; exact if_neg hbig
        have HV := Lib.hid (And.intro (show nextV l = v by unfold nextV; rw [hno]) (show nextL l = l.drop (i + 1) by unfold nextL; rw [hno]))
        clear hno hp
        have hbig' : ¬ (1099511627776 : Int) < v := hbig
        go_wp2_with fail
        go_ret
        rw [HV.out.1, HV.out.2]
        refine ⟨rfl, ⟨A2, n2, c2, ?_, HRT.out.1, HRT.out.2.2, HRT.out.2.1, HN2.out⟩, Turns.set (p := ⟨rb, 0, none⟩) (Turns.of_below HB3.out (fun k => k = rb)) (.inl rfl) _⟩
        exact blk_set ((HB3.out.block rb hlt).trans HH.out) 0 _
    · have hno : nextB l = none := by
        rw [HNB.out]
        split
        · exact absurd ‹_› (hp _)
        · rfl
      have HV := Lib.hid (And.intro (show nextV l = -1 by unfold nextV; rw [hno]) (show nextL l = l by unfold nextL; rw [hno]))
      clear hno hp
      go_wp2_with fail
      go_ret
      rw [HV.out.1, HV.out.2]
      exact ⟨rfl, ⟨A, n, c, (HB3.out.block rb hlt).trans HH.out, HC.out, hc, HA.out⟩, Turns.of_below HB3.out _⟩
  · have hno : nextB l = none := by unfold nextB; rw [← hix, if_neg h0]
    have hV : nextV l = -1 := by unfold nextV; rw [hno]
    have hL : nextL l = l := by unfold nextL; rw [hno]
    have HV := Lib.hid (And.intro hV hL)
    have hcv : Lib.cutV A n c 1 ix = .tuple #[.slice A n c, .slice none 0 0, .bool false] := by unfold Lib.cutV; rw [if_neg h0]
    rw [hcv] at HCUT
    clear hno hV hL hcv hix h0
    refine HCUT.out.mono ?_
    rintro r w2 ⟨rfl, hq⟩
    have hB2 : Below w.heap.size w w2 := by obtain ⟨q, rfl⟩ := hq; exact pw_below_drewN HB1.out q
    have HB2 := Lib.hid hB2
    clear hq hB2
    go_wp2_with fail
    rw [Kd.C_string (e := 5) Tryd.underlying22 Tryd.underlying5 Tryd.underlying9 (Kd.C_below HC.out (HB.out.trans (HB2.out.mono HB.out.size))), strOf_nmI]
    simp only [Result.andThen]
    rw [Oper.upon_value]
    have hpa := parse_any ⟨l.toArray⟩ (by show l.toArray.size ≤ _; simp; omega) w2 (Ground.below HGG.out HB2.out)
    have HPA := Lib.hid hpa
    clear hpa
    go_wp2_with fail
    refine HPA.out.mono ?_
    rintro r w3 ⟨hB3, v, ev, rfl, hor⟩
    have hB3' : Below w.heap.size w w3 := HB2.out.trans (hB3.mono HB2.out.size)
    have HB3 := Lib.hid hB3'
    clear hB3 hB3'
    rcases hor with ⟨hp, rfl⟩ | ⟨hp, q, rfl⟩
    · clear hp
      go_wp2_with fail
      go_ret
      rw [HV.out.1, HV.out.2]
      exact ⟨rfl, ⟨A, n, c, (HB3.out.block rb hlt).trans HH.out, HC.out, hc, HA.out⟩, Turns.of_below HB3.out _⟩
    · clear hp
      go_wp2_with fail
      go_ret
      rw [HV.out.1, HV.out.2]
      exact ⟨rfl, ⟨A, n, c, (HB3.out.block rb hlt).trans HH.out, HC.out, hc, HA.out⟩, Turns.of_below HB3.out _⟩
end Go.Proofs.YthfgkkpibkkiaaaDoor
