/- The walk of the reference's Name. -/
import Derived.Test.YtbnkpfflfiehjaaShaM
import Derived.Test.YtbnkpfflfiehjaaSha3
set_option linter.unusedVariables false
set_option linter.unusedSimpArgs false
namespace Go.Proofs.Ytbnkpfflfiehjaa
open Go.RowKit Go.Proofs.YtbnkpfflfiehjaaW.PrintWords Go.Proofs.YtbnkpfflfiehjaaW.PrintLast

def ints (l : List UInt8) : List Int := l.map fun b => (b.toNat : Int)
theorem infoU8 : (Try.prog.info? 5).map (fun i => (i.zero, i.size, i.bytes)) = some (some (.int .u8 0), 1, 1) := by kernel_rfl

theorem strOf_ints (l : List UInt8) : strOfNums (ints l) = ⟨l.toArray⟩ := by
  unfold strOfNums ints
  congr 2
  rw [List.map_map]
  apply List.ext_getElem?
  intro i
  simp
  cases l[i]? <;> simp
set_option maxRecDepth 100000 in
set_option maxHeartbeats 4000000 in
theorem name_ref (cp : Nat) (A : Option Addr) (bs : List (BitVec 8)) (w : World)
    (hb : Kd.C (Kd.int .u8) w A bs.length (bs.map byt)) (hc : bs.length ≤ cp) (hl : bs.length < 1000000000) :
    Calls Try.prog 12 #[.slice A bs.length cp] w fun e w' =>
      e = .returned (.string (name bs)) ∧ Below w.heap.size w w' := by
  have HC := Lib.hid hb
  clear hb
  go_enter Try.func12, Try.ntmps12
  go_wp2_with fail
  refine (sum_ref cp A bs _ HC.out hc hl).mono ?_
  rintro e w1 ⟨rfl, hB⟩
  obtain ⟨S, hSe⟩ : ∃ S, S = sum bs := ⟨_, rfl⟩
  have hSl : S.length = 32 := by rw [hSe]; exact out_length _
  have HS := Lib.hid hSe
  have HB := Lib.hid hB
  rw [← hSe]
  clear hSe hB
  go_wp2_with (refine wpList_store_row rfl (.tmp 4) (.tmp 8) 24 rfl w1.heap.size rfl (bcells S) rfl 24 (bcells (List.replicate 32 0#8)) (blk_new w1 _) (by rw [bcells_size, hSl]; rfl) (by rw [bcells_size, bcells_size, hSl]; rfl) (bcells_one _) rfl ?_)
  obtain ⟨w2, hw2⟩ : ∃ w2, w2 = (w1.alloc (.cells (bcells (List.replicate 32 0#8)) 24)).setRow w1.heap.size (bcells S) := ⟨_, rfl⟩
  have ht2 : BAt w2 w1.heap.size 24 S := by rw [hw2]; exact setRow_heap _ _ (bcells (List.replicate 32 0#8)) _ _ _ (blk_new w1 _)
  have hB2 : Below w1.heap.size w1 w2 := by rw [hw2]; exact below_setRow ((Below.refl _ _).alloc (Nat.le_refl _) _) (Nat.le_refl _) _
  have HB2 := Lib.hid (HB.out.trans (hB2.mono HB.out.size))
  have htlt := ht2.lt
  have HT := Lib.hid ht2
  have HW2 := Lib.hid hw2
  clear hB2 ht2 hw2 HB
  generalize htb : w1.heap.size = tb at *
  clear htb
  go_loopw [6, 5] (fun v v5 wr => ∃ i : Nat, i ≤ 32 ∧ v = .int .i64 i ∧ Kd.R (Kd.int .u8) 5 wr w2.heap.size (fun _ => True) v5 (ints (hexL (S.take i))) ∧ Below w2.heap.size w2 wr) (fun v _ _ => 32 - (intOf v).toNat)
  case atStart => exact ⟨0, by omega, rfl, Kd.R_nil _ _ _ _ _, (congrArg (Below w2.heap.size w2) HW2.out).mp (Below.refl _ _)⟩
  case round =>
    obtain ⟨i, hi, rfl, hR, hB⟩ := hrel
    clear HW2
    by_cases hi32 : i < 32
    · have d1 : decide ((i : Int) < 32) = true := decide_eq_true (by omega)
      have hi1 : (i : Int) < 32 := by omega
      obtain ⟨v0, c0, rfl⟩ := Kd.R_slice hR
      have hlen : (ints (hexL (S.take i))).length = 2 * i := by rw [ints, List.length_map, hexL_length, List.length_take]; omega
      obtain ⟨c, hc0⟩ : ∃ c, c = S.getD i 0 := ⟨_, rfl⟩
      obtain ⟨n, hn⟩ : ∃ n : Nat, n = c.toNat := ⟨_, rfl⟩
      have hn256 : n < 256 := by rw [hn]; exact c.isLt
      have hcell : ∀ w', Below w2.heap.size w2 w' → w'.cell? ⟨tb, i, none⟩ = some (.int .u8 (n : Int)) := by
        intro w' hB
        have := ((HT.out.below' htlt hB).get i (by omega)).1
        rw [← hc0, show byt c = (n : Int) by rw [hn]; rfl] at this
        exact this
      have hS := hcell wr hB
      have HCELL := Lib.hid hcell
      clear hcell
      have HCC := Lib.hid hc0
      have HN := Lib.hid hn
      have HR := Lib.hid hR
      have HB := Lib.hid hB
      have HLEN := Lib.hid hlen
      have htw := (HT.out.below' htlt hB).lt
      clear hc0 hn hR hB hlen
      obtain ⟨lo, hlo, hloe⟩ : ∃ lo : Nat, lo < 16 ∧ lo = n % 16 := ⟨_, Nat.mod_lt _ (by decide), rfl⟩
      obtain ⟨hh, hhi, hhe⟩ : ∃ hh : Nat, hh < 16 ∧ hh = n / 16 := ⟨_, by omega, rfl⟩
      have HTM := Lib.hid (show Int.tmod (n : Int) 16 = (lo : Int) by rw [hloe]; rfl)
      have HTD := Lib.hid (show (n : Int) / 16 = (hh : Int) by rw [hhe]; rfl)
      have HWD := Lib.hid (show IntKind.u8.wrap (hh : Int) = (hh : Int) by simp only [IntKind.wrap, IntKind.bits, IntKind.signed]; simp; omega)
      have HLO := Lib.hid hloe
      have HHE := Lib.hid hhe
      have hlo1 : (lo : Int) < 16 := by omega
      have hhi1 : (hh : Int) < 16 := by omega
      clear hloe hhe
      go_upto_region 7 with (fail)
      refine start_ (S := fun w' => w'.cell? ⟨tb, i, none⟩ = some (.int .u8 (n : Int))) (ds := [15]) (n := 16) #[false, false, false, false, false, false, false, false, false, false, false, false, false, false, false, false] rfl rfl rfl ?hS0 (fun hHeld => ?hrun)
      case hS0 => exact hS
      case hrun =>
        refine pure_ (i := 0) (N := some 13) (v := ?_) (a' := ?_) #[true, false, false, false, false, false, false, false, false, false, false, false, false, false, false, false] rfl rfl (by kernel_rfl) (fun _ _ _ h => h) (Or.inl ⟨by rfl, ?_⟩) ?_ ?_
        rotate_left
        · intro w'
          go_simp
          first | done | with_reducible rfl
        rotate_left
        · simp only [Act.put, List.setIfInBounds_toArray, List.set_cons_zero, List.set_cons_succ, i64_w, i32_w]
          rfl
        refine pure_ (i := 1) (N := some 14) (v := ?_) (a' := ?_) #[true, true, false, false, false, false, false, false, false, false, false, false, false, false, false, false] rfl rfl (by kernel_rfl) (fun _ _ _ h => h) (Or.inl ⟨by rfl, ?_⟩) ?_ ?_
        rotate_left
        · intro w'
          go_simp
          first | done | with_reducible rfl
        rotate_left
        · simp only [Act.put, List.setIfInBounds_toArray, List.set_cons_zero, List.set_cons_succ, i64_w, i32_w]
          rfl
        refine pure_ (i := 2) (N := some 15) (v := ?_) (a' := ?_) #[true, true, true, false, false, false, false, false, false, false, false, false, false, false, false, false] rfl rfl (by kernel_rfl) (fun _ _ _ h => h) (Or.inl ⟨by rfl, ?_⟩) ?_ ?_
        rotate_left
        · intro w'
          go_simp
          first | done | with_reducible rfl
        rotate_left
        · simp only [Act.put, List.setIfInBounds_toArray, List.set_cons_zero, List.set_cons_succ, i64_w, i32_w]
          rfl
        refine pure_ (i := 3) (N := some 16) (v := ?_) (a' := ?_) #[true, true, true, true, false, false, false, false, false, false, false, false, false, false, false, false] rfl rfl (by kernel_rfl) (fun _ _ _ h => h) (Or.inl ⟨by rfl, ?_⟩) ?_ ?_
        rotate_left
        · intro w'
          go_simp
          first | done | with_reducible rfl
        rotate_left
        · simp only [Act.put, List.setIfInBounds_toArray, List.set_cons_zero, List.set_cons_succ, i64_w, i32_w]
          rfl
        refine take_ (i := 4) (N := some 17) (v := ?_) (a' := ?_) #[true, true, true, true, true, false, false, false, false, false, false, false, false, false, false, false] rfl rfl (by kernel_rfl) (fun _ _ _ h => h) (Or.inl ⟨by rfl, ?_⟩) hHeld ?_ ?_
        rotate_left
        · rintro w' s0
          go_simp
          first | done | with_reducible rfl
        rotate_left
        · simp only [Act.put, List.setIfInBounds_toArray, List.set_cons_zero, List.set_cons_succ, i64_w, i32_w]
          rfl
        refine pure_ (i := 5) (N := some 18) (v := ?_) (a' := ?_) #[true, true, true, true, true, true, false, false, false, false, false, false, false, false, false, false] rfl rfl (by kernel_rfl) (fun _ _ _ h => h) (Or.inl ⟨by rfl, ?_⟩) ?_ ?_
        rotate_left
        · intro w'
          go_simp; rw [HTD.out, HWD.out]
          first | done | with_reducible rfl
        rotate_left
        · simp only [Act.put, List.setIfInBounds_toArray, List.set_cons_zero, List.set_cons_succ, i64_w, i32_w]
          rfl
        refine pure_ (i := 6) (N := some 19) (v := ?_) (a' := ?_) #[true, true, true, true, true, true, true, false, false, false, false, false, false, false, false, false] rfl rfl (by kernel_rfl) (fun _ _ _ h => h) (Or.inl ⟨by rfl, ?_⟩) ?_ ?_
        rotate_left
        · intro w'
          go_simp
          first | done | with_reducible rfl
        rotate_left
        · simp only [Act.put, List.setIfInBounds_toArray, List.set_cons_zero, List.set_cons_succ, i64_w, i32_w]
          rfl
        refine pure_ (i := 7) (N := some 20) (v := ?_) (a' := ?_) #[true, true, true, true, true, true, true, true, false, false, false, false, false, false, false, false] rfl rfl (by kernel_rfl) (fun _ _ _ h => h) (Or.inl ⟨by rfl, ?_⟩) ?_ ?_
        rotate_left
        · intro w'
          go_simp
          first | done | with_reducible rfl
        rotate_left
        · simp only [Act.put, List.setIfInBounds_toArray, List.set_cons_zero, List.set_cons_succ, i64_w, i32_w]
          rfl
        refine pure_ (i := 8) (N := some 21) (v := ?_) (a' := ?_) #[true, true, true, true, true, true, true, true, true, false, false, false, false, false, false, false] rfl rfl (by kernel_rfl) (fun _ _ _ h => h) (Or.inl ⟨by rfl, ?_⟩) ?_ ?_
        rotate_left
        · intro w'
          go_simp
          first | done | with_reducible rfl
        rotate_left
        · simp only [Act.put, List.setIfInBounds_toArray, List.set_cons_zero, List.set_cons_succ, i64_w, i32_w]
          rfl
        refine pure_ (i := 9) (N := some 22) (v := ?_) (a' := ?_) #[true, true, true, true, true, true, true, true, true, true, false, false, false, false, false, false] rfl rfl (by kernel_rfl) (fun _ _ _ h => h) (Or.inl ⟨by rfl, ?_⟩) ?_ ?_
        rotate_left
        · intro w'
          go_simp
          first | done | with_reducible rfl
        rotate_left
        · simp only [Act.put, List.setIfInBounds_toArray, List.set_cons_zero, List.set_cons_succ, i64_w, i32_w]
          rfl
        refine take_ (i := 10) (N := some 23) (v := ?_) (a' := ?_) #[true, true, true, true, true, true, true, true, true, true, true, false, false, false, false, false] rfl rfl (by kernel_rfl) (fun _ _ _ h => h) (Or.inl ⟨by rfl, ?_⟩) hHeld ?_ ?_
        rotate_left
        · rintro w' s0
          go_simp
          first | done | with_reducible rfl
        rotate_left
        · simp only [Act.put, List.setIfInBounds_toArray, List.set_cons_zero, List.set_cons_succ, i64_w, i32_w]
          rfl
        refine pure_ (i := 11) (N := some 24) (v := ?_) (a' := ?_) #[true, true, true, true, true, true, true, true, true, true, true, true, false, false, false, false] rfl rfl (by kernel_rfl) (fun _ _ _ h => h) (Or.inl ⟨by rfl, ?_⟩) ?_ ?_
        rotate_left
        · intro w'
          go_simp; rw [HTM.out]
          first | done | with_reducible rfl
        rotate_left
        · simp only [Act.put, List.setIfInBounds_toArray, List.set_cons_zero, List.set_cons_succ, i64_w, i32_w]
          rfl
        refine pure_ (i := 12) (N := some 25) (v := ?_) (a' := ?_) #[true, true, true, true, true, true, true, true, true, true, true, true, true, false, false, false] rfl rfl (by kernel_rfl) (fun _ _ _ h => h) (Or.inl ⟨by rfl, ?_⟩) ?_ ?_
        rotate_left
        · intro w'
          go_simp
          first | done | with_reducible rfl
        rotate_left
        · simp only [Act.put, List.setIfInBounds_toArray, List.set_cons_zero, List.set_cons_succ, i64_w, i32_w]
          rfl
        refine one_ (i := 13) (N := some 26) #[true, true, true, true, true, true, true, true, true, true, true, true, true, true, false, false] rfl rfl (by kernel_rfl) (by decide) (fun K hK => ?_)
        refine value_ (by rfl) rfl (by go_simp; first | rfl | exact ⟨rfl, rfl⟩) ?_
        refine hK.out _ _ (HCELL.out _ ((HB.out.drew).alloc HB.out.size _)) (fun hHeld1 => ?_)
        clear hK K
        refine norm_ (a' := ?_) ?_ ?_
        rotate_left
        · show Act.put _ (some 26) _ = _
          simp only [Act.put, List.setIfInBounds_toArray, List.set_cons_zero, List.set_cons_succ, i64_w, i32_w]
          rfl
        refine one_ (i := 14) (N := some 27) #[true, true, true, true, true, true, true, true, true, true, true, true, true, true, true, false] rfl rfl (by kernel_rfl) (by decide) (fun K hK => ?_)
        refine Kd.R_append_rows_step (w0 := w2) (Kd.int .u8) (Rr := fun x cs => cs = [.int .u8 x]) w2.heap.size (by rfl) _ _ 22 5 (.int .u8 0) 1 (by rfl) Try.underlying22 infoU8 rfl (by decide) (by decide) (.slice v0 (ints (hexL (S.take i))).length c0) (ints (hexL (S.take i))) [((dig hh).toNat : Int), ((dig lo).toNat : Int)] (some ⟨wr.heap.size, 0, none⟩) 2 2 (fun _ => True) (fun _ => False) (by rfl) (by rfl) ?ho ?hr (fun x cs h => h) (fun _ h => h.elim) (fun _ _ => trivial) ?hb ?hbase ?hl ?hk
        case ho => exact Kd.R_below HR.out (((Below.refl _ _).drew).alloc (Nat.le_refl _) _)
        case hr =>
          refine ⟨rfl, by decide, fun _ => ⟨_, rfl, fun j p hj => ?_⟩⟩
          have hbk := blk_new (wr.drew) (.cells #[.int .u8 ((dig hh).toNat : Int), .int .u8 ((dig lo).toNat : Int)] 5)
          rw [dig_at, dig_at]
          match j, hj with
          | 0, hj =>
            obtain rfl := Option.some.inj hj
            refine ⟨[.int .u8 _], rfl, rfl, fun k u hk => ?_⟩
            match k, hk with
            | 0, hk =>
              obtain rfl := Option.some.inj hk
              exact (Lib.cell_of_heap hbk 0).trans rfl
          | 1, hj =>
            obtain rfl := Option.some.inj hj
            refine ⟨[.int .u8 _], rfl, rfl, fun k u hk => ?_⟩
            match k, hk with
            | 0, hk =>
              obtain rfl := Option.some.inj hk
              exact (Lib.cell_of_heap hbk 1).trans rfl
        case hb => exact (HB.out.drew).alloc HB.out.size _
        case hbase => have := HB.out.size; simp; omega
        case hl => rw [HLEN.out]; omega
        intro v1 w3 hR1 hBB hg1 hat1
        have e : ints (hexL (S.take i)) ++ [((dig hh).toNat : Int), ((dig lo).toNat : Int)] = ints (hexL (S.take (i + 1))) := by
          rw [hexL_take S i (by omega), ← HCC.out, ← HN.out, ← HHE.out, ← HLO.out]
          simp [ints]
        rw [e] at hR1
        obtain ⟨A1, c1, rfl⟩ := Kd.R_slice hR1
        have hS1 := HCELL.out _ hBB
        have HR1 := Lib.hid hR1
        have HB1 := Lib.hid hBB
        clear e hR1 hBB hg1 hat1
        refine hK.out _ _ hS1 (fun hHeld2 => ?_)
        clear hK K
        refine norm_ (a' := ?_) ?_ ?_
        rotate_left
        · show Act.put _ (some 27) _ = _
          simp only [Act.put, List.setIfInBounds_toArray, List.set_cons_zero, List.set_cons_succ, i64_w, i32_w]
          rfl
        refine tail_list 15 (t := [15]) (fuel := 0) rfl rfl rfl (by kernel_rfl) (by decide) ?_
        go_wp2_with fail
        exact ⟨⟨i + 1, by omega, by go_num, HR1.out, HB1.out⟩, by simp [intOf]; omega⟩
    · obtain rfl : i = 32 := by omega
      have hR0 := hR
      rw [List.take_of_length_le (by omega)] at hR0
      obtain ⟨A1, c1, rfl, hc1, hC1, _⟩ := R_addr hR0
      have hrun := Kd.C_string (P := Try.prog) (w := wr) (src := 22) (dst := 9) (e := 5) (A := A1) (n := (ints (hexL S)).length) (c := c1) (by rfl) (by rfl) (by rfl) hC1
      have HRUN := Lib.hid hrun
      have HB3 := Lib.hid hB
      clear hrun hC1 hR hR0 hB
      go_wp2_with fail
      rw [HRUN.out]
      go_wp2_with fail
      go_ret
      refine ⟨?_, below_then HB2.out HB2.out.size HB3.out⟩
      rw [name, ← HS.out, strOf_ints]
      rfl
end Go.Proofs.Ytbnkpfflfiehjaa
