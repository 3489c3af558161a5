/- The walk of sha's Sum. -/
import Derived.Test.YtbnkpfflfiehjaaSha1
import Derived.Test.YtbnkpfflfiehjaaShaP
import Derived.Laws.CopyOwn
import Derived.Deep.CutRange
set_option linter.unusedVariables false
set_option linter.unusedSimpArgs false
namespace Go.Proofs.Ytbnkpfflfiehjaa
open Go.RowKit Go.Proofs.YtbnkpfflfiehjaaW.PrintWords Go.Proofs.YtbnkpfflfiehjaaW.PrintLast

def lenOf : Value → Nat
  | .slice _ n _ => n
  | _ => 0

theorem zero128 (L0 : List (BitVec 8)) (hL : L0 = List.replicate 128 0#8) (w : World) : Sem.run Try.prog (zeroValue 41) w = .ok (.agg (bcells L0)) w := by
  subst hL
  have h : (Try.prog.info? 41).map (·.zero) = some (some (.agg (bcells (List.replicate 128 0#8)))) := by kernel_rfl
  obtain ⟨i, hi, hz⟩ := Option.map_eq_some_iff.1 h
  simp [zeroValue, typeInfo, hi, hz]

theorem slice128 (lb q qa : Nat) (hq : qa = 64 * q) (h : qa + 64 ≤ 128) (w : World) : Sem.run Try.prog (Instr.sliceAt 41 (.pointer (some ⟨lb, 0, none⟩)) (some (.int .i64 (qa : Int))) (some (.int .i64 ((qa : Int) + 64))) none) w = .ok (.slice (some ⟨lb, qa, none⟩) 64 (128 - qa)) w := by
  have hu : Try.prog.underlying 41 = some (.array 128 5) := by rfl
  have : q = 0 ∨ q = 1 := by omega
  rcases this with rfl | rfl
  · obtain rfl : qa = 0 := hq
    simp [Instr.sliceAt, run_underlying hu, Instr.sureAddr, Instr.sliceBounds, Instr.sliceBound, asInt, asIntOf, addr_add]

  · obtain rfl : qa = 64 := hq
    simp [Instr.sliceAt, run_underlying hu, Instr.sureAddr, Instr.sliceBounds, Instr.sliceBound, asInt, asIntOf, addr_add]

theorem copy_bytes {w : World} {A : Option Addr} {rm L : List (BitVec 8)} {lb c dl dc : Nat} {t : TypeId} (hg : BAt w lb t L) (hs : Kd.C (Kd.int .u8) w A rm.length (rm.map byt)) (hd : rm.length ≤ dl) (hl : rm.length ≤ L.length) :
    ∃ w', Sem.run Try.prog (Builtin.copy_ #[22, 22] 3 #[.slice (some ⟨lb, 0, none⟩) dl dc, .slice A rm.length c]) w = .ok (goInt rm.length) w' ∧ BAt w' lb t (rm ++ L.drop rm.length) ∧ Below lb w w' := by
  have hu : Try.prog.underlying 22 = some (.slice 5) := by rfl
  have hz : (Try.prog.info? 5).map (·.size) = some 1 := by rfl
  by_cases h0 : rm.length = 0
  · obtain rfl := List.eq_nil_of_length_eq_zero h0
    exact ⟨w, run_copy_none w _ _ _ _ _ _ _ _ _ _ hu hz (by simp), by simpa using hg, Below.refl _ _⟩
  · obtain ⟨ad, rfl, hc⟩ := hs.2.2 (by omega)
    have hrun := run_copy_row (P := Try.prog) w 22 22 3 5 lb 0 dl dc ad rm.length c (bcells L) t (rm.map fun x => Value.int .u8 (byt x)) hu hz hg (by simp [Nat.min_eq_left hd]) ?_ (by simpa [bcells] using hl) (by simp [Value.oneCell'])
    · have e : (rm.map fun x => Value.int .u8 (byt x)).length = rm.length := List.length_map _
      rw [e] at hrun
      refine ⟨_, hrun, ?_, below_setRow (Below.refl _ _) (Nat.le_refl _) _⟩
      unfold BAt
      rw [setRow_heap w lb _ _ t (0, 0) hg]
      simp [bcells, List.map_drop]
    · intro j v hj
      rw [List.getElem?_map] at hj
      obtain ⟨y, hy, rfl⟩ := Option.map_eq_some_iff.1 hj
      obtain ⟨cs, _, hK, hcell⟩ := hc j (byt y) (by rw [List.getElem?_map, hy]; rfl)
      obtain rfl : cs = [.int .u8 (byt y)] := hK
      have := hcell 0 _ rfl
      simpa [Kd.int, Kd.scalar] using this

set_option maxRecDepth 100000 in
set_option maxHeartbeats 4000000 in
theorem sum_any (cp : Nat) (A : Option Addr) (bs : List (BitVec 8)) (w : World)
    (hb : Kd.C (Kd.int .u8) w A bs.length (bs.map byt)) (hc : bs.length ≤ cp) (hl : bs.length < 1000000000) :
    Calls Try.prog 9 #[.slice A bs.length cp] w fun e w' =>
      e = .returned (.agg (bcells (sum bs))) ∧ Below w.heap.size w w' := by
  have HC := Lib.hid hb
  clear hb
  go_enter Try.func9, Try.ntmps9
  go_wp2_with fail
  refine (table_any _).mono ?_
  rintro e w1 ⟨kb, rfl, hk, hkb, hB⟩
  have HK := Lib.hid hk
  have HB := Lib.hid hB
  clear hk hB
  go_wp2_with fail
  have hB1 : Below w.heap.size w w1 := ((Below.refl _ _).alloc (Nat.le_refl _) _).trans (HB.out.mono (by simp))
  have hr1 : BAt w1 w.heap.size 24 (List.replicate 32 0#8) := (HB.out.block _ (by simp)).trans (blk_new w _)
  have hkb2 : w.heap.size < kb := by simp at hkb; omega
  have hk1 := HK.out.lt
  have hrv := hr1.lt
  have hlv := hB1.size
  have hB2 := hB1.alloc hB1.size (.cells (wcells IV) 38)
  have hS2 : Below w1.heap.size w1 (w1.alloc (.cells (wcells IV) 38)) := (Below.refl _ _).alloc (Nat.le_refl _) _
  have HR := Lib.hid (hr1.below' (by have := hr1.lt; exact this) hS2)
  have HK2 := Lib.hid (HK.out.below hS2)
  have HV := Lib.hid (show ArrAt (w1.alloc (.cells (wcells IV) 38)) w1.heap.size 38 IV from blk_new w1 _)
  have HB2 := Lib.hid hB2
  clear hB1 hr1 hB2 hS2 HB HK
  generalize hvb : w1.heap.size = vb at *
  generalize hrb : w.heap.size = rb at *
  have HRB := Lib.hid hrb
  obtain ⟨q, hq⟩ : ∃ q, pad bs = bs ++ q := ⟨_, rfl⟩
  have HQ := Lib.hid hq
  have hl64 : bs.length ≤ 9223372036854775807 := by omega
  clear hq hrb hvb
  go_loopw [0] (fun v wr => ∃ (i : Nat) (A' : Option Addr) (c' : Nat), 64 * i ≤ bs.length ∧ v = .slice A' (bs.drop (64 * i)).length c' ∧ Kd.C (Kd.int .u8) w A' (bs.drop (64 * i)).length ((bs.drop (64 * i)).map byt) ∧ (bs.drop (64 * i)).length ≤ c' ∧ ArrAt wr vb 38 (absorb (pad bs) i) ∧ ArrAt wr kb 42 K64 ∧ BAt wr rb 24 (List.replicate 32 0#8) ∧ Below rb w wr) (fun v _ => lenOf v)
  case atStart => exact ⟨0, A, cp, by omega, rfl, HC.out, hc, HV.out, HK2.out, HR.out, HB2.out⟩
  case round =>
    obtain ⟨i, A', c', hi, rfl, hb, hc', hv, hk, hr, hB⟩ := hrel
    clear HV HK2 HR HB2
    have hdl : (bs.drop (64 * i)).length = bs.length - 64 * i := by simp
    by_cases h64 : 64 * i + 64 ≤ bs.length
    · skip
      --DEV{
      have d1 : decide ((bs.drop (64 * i)).length ≥ 64) = true := decide_eq_true (by omega)
      have HB := Lib.hid hB
      have HK := Lib.hid hk
      have HV := Lib.hid hv
      have HR := Lib.hid hr
      have HC2 := Lib.hid hb
      have HDL := Lib.hid hdl
      have hn64 : 64 ≤ (bs.drop (64 * i)).length := by omega
      have hnmax : (bs.drop (64 * i)).length < 1000000000 := by omega
      clear hB hk hv hr hb hdl
      generalize hdn : (bs.drop (64 * i)).length = dn at *
      go_wp2_with fail
      refine (block_any vb kb c' A' (absorb (pad bs) i) K64 (chunk (pad bs) i) wr HV.out HK.out (absorb_length _ _) K64_length ?hbC ?hbL).mono ?_
      case hbC =>
        rw [HQ.out, chunk_of_ahead bs q i h64]
        have := HC2.out
        rw [← hdn] at this
        exact Kd.C_below (C_first this (by rw [hdn]; exact hn64)) (HB.out.mono (Nat.le_of_eq HRB.out))
      case hbL => exact chunk_length _ _ (by rw [HQ.out, List.length_append]; omega)
      rintro e w2 ⟨rfl, hv2, hg⟩
      have HV2 := Lib.hid hv2
      have HG := Lib.hid hg
      clear hv2 hg
      go_wp2_with fail
      have hsz : rb ≤ wr.heap.size := by have := HB.out.size; rw [HRB.out] at this; exact this
      refine ⟨⟨i + 1, _, _, by omega, by congr 1; rw [← hdn]; simp; omega, ?_, ?_, HV2.out, HK.out.grown HG.out (by omega), HR.out.grown HG.out (by omega), HB.out.grown HG.out hsz (fun k e => by cases e; omega)⟩, by simp [lenOf]; omega⟩
      · have := HC2.out
        rw [← hdn] at this
        have := C_rest (m := 64) this (by omega) (by omega : (bs.drop (64 * i)).length ≤ c')
        rw [List.drop_drop] at this
        exact this
      · rw [← hdn] at hc'
        simp at hc' ⊢
        omega
      --DEV}
    · have hr64 : (bs.drop (64 * i)).length < 64 := by omega
      have HB := Lib.hid hB
      have HK := Lib.hid hk
      have HV := Lib.hid hv
      have HR := Lib.hid hr
      have HC2 := Lib.hid hb
      have HDL := Lib.hid hdl
      clear hB hk hv hr hb hdl
      obtain ⟨rm, hrm⟩ : ∃ rm, rm = bs.drop (64 * i) := ⟨_, rfl⟩
      rw [← hrm] at hc' hr64
      have HRM := Lib.hid hrm
      have hrmax : rm.length < 1000000000 := by omega
      rw [show (bs.drop (64 * i)).length = rm.length by rw [hrm]]
      clear hrm
      go_wp2_with fail
      obtain ⟨L0, hL0⟩ : ∃ L0, L0 = List.replicate 128 0#8 := ⟨_, rfl⟩
      rw [zero128 L0 hL0]
      have HL0 := Lib.hid hL0
      clear hL0
      go_wp2_with fail
      have hg0 : BAt (wr.alloc (.cells (bcells L0) 41)) wr.heap.size 41 L0 := blk_new wr _
      have hA1 : Below wr.heap.size wr (wr.alloc (.cells (bcells L0) 41)) := (Below.refl _ _).alloc (Nat.le_refl _) _
      obtain ⟨w3, hrun, hL, hB3⟩ := copy_bytes (c := c') (dl := 128) (dc := 128) (rm := rm) hg0 (by
        have := HC2.out
        rw [← HRM.out] at this
        exact Kd.C_below this ((HB.out.mono (Nat.le_of_eq HRB.out)).trans (hA1.mono HB.out.size))) (by omega) (by rw [HL0.out]; simp; omega)
      rw [hrun]
      have hlb : rb ≤ wr.heap.size := by have := HB.out.size; rw [HRB.out] at this; exact this
      have lv := HV.out.lt
      have hW3 : Below wr.heap.size wr w3 := hA1.trans hB3
      have HV3 := Lib.hid (HV.out.below' HV.out.lt hW3)
      have HK3 := Lib.hid (HK.out.below' HK.out.lt hW3)
      have HR3 := Lib.hid (HR.out.below' HR.out.lt hW3)
      have HB3 := Lib.hid (HB.out.trans (hW3.mono hlb))
      have hLl : (rm ++ L0.drop rm.length).length = 128 := by rw [HL0.out]; simp; omega
      obtain ⟨c1, c2⟩ := hL.get rm.length (by omega)
      have c3 := hL.lt
      have HL := Lib.hid hL
      clear hL hW3 hA1 hB3 hg0 HB HK HV HR HC2
      generalize hlbe : wr.heap.size = lb at *
      clear hlbe
      obtain ⟨en, hen⟩ : ∃ en : Nat, en = if rm.length ≤ 55 then 64 else 128 := ⟨_, rfl⟩
      have hi1 : (rm.length : Int) < 128 := by omega
      have hen2 : en = 64 ∨ en = 128 := by
        rw [hen]
        split <;> simp
      have HEN := Lib.hid hen
      clear hen
      go_upto_if 35 with (fail)
      go_cut [7] from 33 to 35 (fun c7 wx => c7 = .int .i64 (en : Int) ∧ wx = w3.setCell ⟨lb, rm.length, none⟩ (.int .u8 128))
      case first =>
        go_wp2_with fail
        · go_meet
          refine ⟨?_, rfl⟩
          rw [HEN.out, if_neg (by omega)]
          rfl
        · go_meet
          refine ⟨?_, rfl⟩
          rw [HEN.out, if_pos (by omega)]
          rfl
      case rest =>
        obtain ⟨rfl, rfl⟩ := hcut
        have hL4 := HL.out.put rm.length 128#8
        have eL : (rm ++ L0.drop rm.length).set rm.length 128#8 = lastRow rm := by
          rw [HL0.out]
          rw [List.drop_replicate, show 128 - rm.length = (127 - rm.length) + 1 by omega, List.replicate_succ, show (rm ++ 0#8 :: List.replicate (127 - rm.length) 0#8).set rm.length 128#8 = (rm ++ 0#8 :: List.replicate (127 - rm.length) 0#8).set (rm.length + 0) 128#8 from rfl, List.set_append_right _ _ (by omega), Nat.add_sub_cancel_left]
          rfl
        rw [eL] at hL4
        have HL4 := Lib.hid (show BAt (w3.setCell ⟨lb, rm.length, none⟩ (.int .u8 128)) lb 41 (lastRow rm) from hL4)
        have hW4 : Below lb w3 (w3.setCell ⟨lb, rm.length, none⟩ (.int .u8 128)) := (Below.refl _ _).setCell (p := ⟨lb, rm.length, none⟩) (Nat.le_refl _) _
        have HV4 := Lib.hid (HV3.out.below' lv hW4)
        have HK4 := Lib.hid (HK3.out.below' (by omega) hW4)
        have HR4 := Lib.hid (HR3.out.below' (by omega) hW4)
        have HB4 := Lib.hid (HB3.out.trans (hW4.mono hlb))
        clear hL4 hW4 HV3 HK3 HR3 HB3 HL eL
        generalize w3.setCell ⟨lb, rm.length, none⟩ (.int .u8 128) = w4 at *
        go_wp2_with fail
        go_loopw [36] (fun v wr => ∃ m : Nat, m ≤ 8 ∧ v = .int .i64 m ∧ BAt wr lb 41 (stage (lastRow rm) en bs.length m) ∧ Below lb w4 wr) (fun v _ => 8 - (intOf v).toNat)
        case atStart => exact ⟨0, by omega, rfl, HL4.out, Below.refl _ _⟩
        case round =>
          obtain ⟨m, hm, rfl, hL, hB⟩ := hrel
          by_cases hm8 : m < 8
          · have d1 : decide ((m : Int) < 8) = true := decide_eq_true (by omega)
            obtain ⟨j, hj⟩ : ∃ j, en = j + m + 1 := ⟨en - 1 - m, by omega⟩
            obtain ⟨g0, g1⟩ := hL.get j (by rw [stage_length, lastRow_length _ (by omega)]; omega)
            have g2 := hL.lt
            have HL := Lib.hid hL
            have HB := Lib.hid hB
            clear hL hB
            have hw1 : wrap64 (wrap64 ((en : Int) - 1) - (m : Int)) = (j : Int) := by unfold wrap64; omega
            go_wp2_with fail
            rw [← byt_len]
            refine ⟨⟨m + 1, by omega, by go_num, ?_, HB.out.setCell (p := ⟨lb, j, none⟩) (Nat.le_refl _) _⟩, by simp [intOf]; omega⟩
            have := HL.out.put j (lenByte bs.length m)
            rw [show j = en - 1 - m by omega] at this ⊢
            exact this
          · obtain rfl : m = 8 := by omega
            have hbl : bs.length < 64 * i + 64 := by omega
            have hps := pad_split bs i en hi hbl (by rw [← HRM.out]; exact HEN.out)
            have hpb := pad_blocks bs i en hi hbl (by rw [← HRM.out]; exact HEN.out)
            rw [← HRM.out] at hps
            obtain ⟨lr, hlr⟩ : ∃ lr, lr = stage (lastRow rm) en bs.length 8 := ⟨_, rfl⟩
            have hlrl : lr.length = 128 := by rw [hlr, stage_length, lastRow_length _ (by omega)]
            rw [← hlr] at hL hps
            have HPS := Lib.hid hps
            have HPB := Lib.hid hpb
            have HL5 := Lib.hid hL
            have HV5 := Lib.hid (HV4.out.below' lv hB)
            have HK5 := Lib.hid (HK4.out.below' (by omega) hB)
            have HR5 := Lib.hid (HR4.out.below' (by omega) hB)
            have HB5 := Lib.hid (HB4.out.trans (hB.mono hlb))
            have hlw := hL.lt
            clear hlr hps hpb hL hB HV4 HK4 HR4 HB4 HL4 HL0
            go_wp2_with fail
            go_loopw [9] (fun v wr => ∃ q : Nat, 64 * q ≤ en ∧ v = .int .i64 ((64 * q : Nat) : Int) ∧ ArrAt wr vb 38 (absorb (pad bs) (i + q)) ∧ ArrAt wr kb 42 K64 ∧ BAt wr rb 24 (List.replicate 32 0#8) ∧ BAt wr lb 41 lr ∧ Below rb w wr) (fun v _ => 128 - (intOf v).toNat)
            case atStart => exact ⟨0, by omega, rfl, HV5.out, HK5.out, HR5.out, HL5.out, HB5.out⟩
            case round =>
              obtain ⟨q, hq, rfl, hv, hk, hr, hL, hB⟩ := hrel
              clear HV5 HK5 HR5 HL5 HB5
              have HV := Lib.hid hv
              have HK := Lib.hid hk
              have HR := Lib.hid hr
              have HL := Lib.hid hL
              have HB := Lib.hid hB
              have hlw := hL.lt
              have hsz : rb ≤ wr.heap.size := by have := hB.size; rw [HRB.out] at this; exact this
              clear hv hk hr hL hB
              by_cases hq64 : 64 * q < en
              · have hq2 : 64 * q + 64 ≤ en := by omega
                obtain ⟨qa, hqa⟩ : ∃ qa, qa = 64 * q := ⟨_, rfl⟩
                have HQA := Lib.hid hqa
                rw [← hqa] at hq64 hq2 hq ⊢
                have hq3 : (qa : Int) < (en : Int) := by omega
                have hq4 : (qa : Int) + 64 ≤ 128 := by omega
                clear hqa
                go_wp2_with fail
                rw [slice128 lb q qa HQA.out (by omega)]
                go_wp2_with fail
                refine (block_any vb kb (128 - qa) (some ⟨lb, qa, none⟩) (absorb (pad bs) (i + q)) K64 (chunk (pad bs) (i + q)) wr HV.out HK.out (absorb_length _ _) K64_length ?hbC ?hbL).mono ?_
                case hbC =>
                  rw [chunk_behind (pad bs) (bs.take (64 * i)) lr i q en HPS.out (by simp; omega) (by rw [← HQA.out]; exact hq2), ← HQA.out]
                  exact HL.out.C qa 64 (by omega) (by decide)
                case hbL => exact chunk_length _ _ (by rw [HPB.out]; have := HQA.out; omega)
                rintro e w6 ⟨rfl, hv2, hg⟩
                have HV2 := Lib.hid hv2
                have HG := Lib.hid hg
                clear hv2 hg
                go_wp2_with fail
                refine ⟨?_, ?measure3⟩
                case measure3 => simp [intOf]; omega
                repeat apply Exists.intro
                refine ⟨?rel3, rfl⟩
                have hqq := HQA.out
                exact ⟨q + 1, by omega, by go_num, HV2.out, HK.out.grown HG.out (by omega), HR.out.grown HG.out (by omega), HL.out.grown HG.out (by omega), HB.out.grown HG.out hsz (fun k e => by cases e; omega)⟩
              · have hqe : (pad bs).length / 64 = i + q := by rw [HPB.out]; omega
                obtain ⟨V, hVe⟩ : ∃ V, V = absorb (pad bs) (i + q) := ⟨_, rfl⟩
                have hVl : V.length = 8 := by rw [hVe]; exact absorb_length _ _
                have HV6 := Lib.hid (show ArrAt wr vb 38 V by rw [hVe]; exact HV.out)
                have HVE := Lib.hid (show sum bs = out V by rw [sum, hqe, hVe])
                have hq64' : ¬ ((64 * q : Nat) : Int) < (en : Int) := by omega
                clear hqe hVe HV HPB HPS hbl hlrl
                go_wp2_with fail
                have hA : Below wr.heap.size wr (wr.alloc (.cells (bcells (List.replicate 32 0#8)) 24)) := (Below.refl _ _).alloc (Nat.le_refl _) _
                have HO := Lib.hid (show BAt (wr.alloc (.cells (bcells (List.replicate 32 0#8)) 24)) wr.heap.size 24 (List.replicate 32 0#8) from blk_new wr _)
                have lv2 := HV6.out.lt
                have HV7 := Lib.hid (HV6.out.below' HV6.out.lt hA)
                have HR7 := Lib.hid (HR.out.below' HR.out.lt hA)
                have HB7 := Lib.hid (HB.out.trans (hA.mono hsz))
                clear hA HV6 HR HB HK HL
                generalize hob : wr.heap.size = ob at *
                clear hob
                go_loopw [61] (fun v wr => ∃ m : Nat, m ≤ 32 ∧ v = .int .i64 m ∧ ArrAt wr vb 38 V ∧ BAt wr rb 24 (List.replicate 32 0#8) ∧ BAt wr ob 24 (outs V m) ∧ Below rb w wr) (fun v _ => 32 - (intOf v).toNat)
                case atStart => exact ⟨0, by omega, rfl, HV7.out, HR7.out, by rw [outs_zero]; exact HO.out, HB7.out⟩
                case round =>
                  obtain ⟨m, hm, rfl, hv, hr, ho, hB⟩ := hrel
                  clear HV7 HR7 HO HB7
                  have HV := Lib.hid hv
                  have HR := Lib.hid hr
                  have HO := Lib.hid ho
                  have HB := Lib.hid hB
                  by_cases hm32 : m < 32
                  · have d1 : decide ((m : Int) < 32) = true := decide_eq_true (by omega)
                    have g0 := (hv.get (m / 4) (by omega)).1
                    have g1 := hv.lt
                    obtain ⟨_, p1⟩ := ho.get m (by rw [outs_length _ _ hm]; exact hm32)
                    have p2 := ho.lt
                    have hm1 : (m : Int) < 32 := by omega
                    clear hv hr ho hB
                    go_wp2_with fail
                    rw [show (num (V[m / 4]?.getD 0#32) / 2 ^ (24 - m % 4 * 8) % 256) = byt (outByte V m) by rw [byt_out, List.getD_eq_getElem?_getD]; rfl]
                    refine ⟨⟨m + 1, by omega, by go_num, HV.out.other ⟨ob, m, none⟩ (by show vb ≠ ob; omega) _, HR.out.other ⟨ob, m, none⟩ (by show rb ≠ ob; omega) _, ?_, HB.out.setCell (p := ⟨ob, m, none⟩) hsz _⟩, by simp [intOf]; omega⟩
                    have := HO.out.put m (outByte V m)
                    rw [outs_set _ _ hm32] at this
                    exact this
                  · obtain rfl : m = 32 := by omega
                    have hrb := hr.lt
                    clear hv hr ho hB
                    go_wp2_with (first
                      | refine wpList_load_row rfl (.tmp 10) 24 rfl ob rfl 24 (bcells (outs V 32)) (0, 0) _ HO.out (by rfl) rfl (by rw [bcells_size, outs_length _ _ (Nat.le_refl _)]; rfl) ?_
                      | refine wpList_store_row rfl (.tmp 2) (.tmp 77) 24 rfl rb rfl (bcells (outs V 32)) rfl 24 (bcells (List.replicate 32 0#8)) HR.out (by rw [bcells_size, outs_length _ _ (Nat.le_refl _)]; rfl) (by rw [bcells_size, bcells_size, outs_length _ _ (Nat.le_refl _)]; rfl) (bcells_one _) rfl ?_)
                    refine bodyPost_ret (results_row (P := Try.prog) (fn := Try.f9) (a := 2) (ty := 24) rfl _ rb rfl 24 _ (0, 0) _ HR.out.setRow (by rfl) rfl (by rw [bcells_size, outs_length _ _ (Nat.le_refl _)]; rfl)) rfl ⟨?_, (below_setRow HB.out (Nat.le_refl _) _).mono (Nat.le_of_eq HRB.out)⟩
                    rw [HVE.out, ← outs_all]
end Go.Proofs.Ytbnkpfflfiehjaa
