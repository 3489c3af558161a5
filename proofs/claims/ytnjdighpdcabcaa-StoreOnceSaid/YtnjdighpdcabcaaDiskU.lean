/- How many bytes all files have: a range over a map. -/
import Derived.Test.YtnjdighpdcabcaaDiskC
import Derived.Test.YtnjdighpdcabcaaDa
set_option linter.unusedVariables false
set_option linter.unusedSimpArgs false
namespace Go.Proofs.Ytnjdighpdcabcaa
open Go.RowKit Go.Proofs.YtnjdighpdcabcaaW.PrintWords Go.Proofs.YtnjdighpdcabcaaW.PrintLast Go.Proofs.YtnjdighpdcabcaaW.PrintMore

theorem own_apart {w : World} {b : Nat} {vs : List (ByteArray × Value)} (h : OwnM w b vs) : vs.Pairwise (fun x y => x.1 ≠ y.1) := by
  obtain ⟨es, e, hp⟩ := World.ownsMap.tidy h keyS
  have e' : vs.map entW = es := DataW.map.inj e
  rw [← e', List.pairwise_map] at hp
  exact hp.imp (fun {x y} hne e => hne (by show Lit.string _ = Lit.string _; rw [e]))
theorem look_of_at {vs : List (ByteArray × Value)} {s : ByteArray} {v : Value} (h : ∀ zd, (mapW vs).atKey (.string s.data.toList) zd = .held v) : look vs s = some v := by
  have h1 := h (.held .nilFunc)
  have h2 := h (.held .nilIface)
  rw [mapW_at] at h1 h2
  have h1 := held_inj h1
  have h2 := held_inj h2
  cases hl : look vs s with
  | none =>
    rw [hl] at h1 h2
    simp only [Option.getD_none] at h1 h2
    rw [← h2] at h1
    cases h1
  | some u =>
    rw [hl] at h1
    exact congrArg some h1
section
variable (w : World) {ops : Array Oper} {rest : List Oper} {o : Oper} {a : Act} {Q : Exit → Act → World → Prop} {b r n : Nat} {vs : List (ByteArray × Value)} {left : Lit → Bool} {cnt : Nat}
theorem wp_range (hg : o.guard = none) (m : Operand) (hop : o.op = Op.range 50 m) (hm : a.eval m = .map (some b)) (hown : OwnM w b vs)
    (hK : ∀ w', w'.ranges Try.prog 9 rdSl b w.heap.size vs.length (mapW vs) (Maps.has (mapW vs)) (Maps.size (mapW vs)) → w.grownBy w' none → w'.heap.size = w.heap.size + 1 → wpList Try.prog ops Q rest (a.put o.dst (.pointer (some ⟨w.heap.size, 0, none⟩))) w') :
    wpList Try.prog ops Q (o :: rest) a w := wpList_range_own w hg m _ hop _ _ keyS underF rdSl b _ _ hm hown hK
theorem wp_next (hg : o.guard = none) (it : Operand) (hop : o.op = Op.next it false) (hit : a.eval it = .pointer (some ⟨r, 0, none⟩)) (h : w.ranges Try.prog 9 rdSl b r n (mapW vs) left cnt)
    (hDone : cnt = 0 → (∀ kl, left kl = false) → wpList Try.prog ops Q rest (a.put o.dst (.tuple #[.bool false])) w)
    (hMore : ∀ (s : ByteArray) (A : Option Addr) (m c : Nat) (w' : World) (cnt' : Nat), look vs s = some (.slice A m c) → left (.string s.data.toList) = true → w'.ranges Try.prog 9 rdSl b r n (mapW vs) (fun z => left z && !z.sameKey (.string s.data.toList)) cnt' → cnt' < cnt →
      w.grownBy w' (some r) → w'.heap.size = w.heap.size → (Instr.entry (.pointer (some ⟨r, 0, none⟩))).run Try.prog w' = .ok (.tuple #[.string s, .slice A m c]) w' → wpList Try.prog ops Q rest (a.put o.dst (.tuple #[.bool true, .string s, .slice A m c])) w') :
    wpList Try.prog ops Q (o :: rest) a w :=
  have inv : ∀ key kl, keyOf Try.prog 9 key = some kl → ∃ x : ByteArray, key = .string x ∧ kl = .string x.data.toList := fun key kl hk => by
    have hu := Try.underlying9
    cases key <;> simp [keyOf, mapKey, hu] at hk
    exact ⟨_, rfl, hk.2.symm⟩
  wpList_next_ranges w hg it hop _ keyS rdSl Value.string (fun x : Option Addr × Nat × Nat => .slice x.1 x.2.1 x.2.2) (fun key kl hk => by obtain ⟨x, e, _⟩ := inv key kl hk; exact ⟨x, e⟩) (fun v y hv => (rdSl_inv hv).1)
    b r n _ _ _ hit h hDone (fun x c kl y w' cnt' hkey hlk hv hat hrg hlt hgr hsz hen => by
      obtain ⟨x', e, rfl⟩ := inv _ _ hkey
      obtain rfl : x = x' := by injection e
      have hy := (rdSl_inv hv).2
      subst hy
      exact hMore x c.1 c.2.1 c.2.2 w' cnt' (look_of_at hat) hlk hrg hlt hgr hsz hen)
end
def lenV : Value → Nat
  | .slice _ n _ => n
  | _ => 0
/-- What is still to come. -/
def leftSum : List (ByteArray × Value) → (Lit → Bool) → Nat
  | [], _ => 0
  | x :: r, left => (if left (.string x.1.data.toList) = true then lenV x.2 else 0) + leftSum r left
theorem leftSum_none (left : Lit → Bool) (h : ∀ kl, left kl = false) : ∀ vs : List (ByteArray × Value), leftSum vs left = 0
  | [] => rfl
  | x :: r => by rw [leftSum, leftSum_none left h r, h, if_neg (by simp)]
theorem leftSum_congr {left left' : Lit → Bool} : ∀ {vs : List (ByteArray × Value)}, (∀ x ∈ vs, left (.string x.1.data.toList) = left' (.string x.1.data.toList)) → leftSum vs left = leftSum vs left'
  | [], _ => rfl
  | x :: r, h => by rw [leftSum, leftSum, h x (by simp), leftSum_congr (fun y hy => h y (by simp [hy]))]
theorem leftSum_all : ∀ vs : List (ByteArray × Value), leftSum vs (fun _ => true) = (vs.map fun x => lenV x.2).sum
  | [] => rfl
  | x :: r => by rw [leftSum, leftSum_all r, if_pos rfl, List.map_cons, List.sum_cons]
theorem leftSum_start (vs : List (ByteArray × Value)) : leftSum vs (Maps.has (mapW vs)) = (vs.map fun x => lenV x.2).sum := by
  rw [← leftSum_all]
  refine leftSum_congr (fun x hx => ?_)
  rw [mapW_has]
  cases h : look vs x.1 with
  | none => exact absurd rfl (look_none.1 h x hx)
  | some v => rfl
theorem leftSum_step {left : Lit → Bool} {s : ByteArray} {v : Value} (hk : left (.string s.data.toList) = true) : ∀ {vs : List (ByteArray × Value)}, vs.Pairwise (fun x y => x.1 ≠ y.1) → look vs s = some v →
    leftSum vs left = lenV v + leftSum vs (fun z => left z && !z.sameKey (.string s.data.toList))
  | [], _, hl => by simp [look] at hl
  | x :: r, hp, hl => by
    obtain ⟨h1, h2⟩ := List.pairwise_cons.1 hp
    have hsk : ∀ y : ByteArray × Value, (Lit.string y.1.data.toList).sameKey (.string s.data.toList) = decide (y.1 = s) := fun y => same_key y s
    rw [leftSum, leftSum]
    by_cases hx : x.1 = s
    · have hv : x.2 = v := by
        unfold look at hl
        rw [List.find?_cons] at hl
        simpa [hx] using hl
      have hr : ∀ y ∈ r, y.1 ≠ s := fun y hy => hx ▸ (h1 y hy).symm
      rw [if_pos (by rw [hx]; exact hk), if_neg (by rw [hsk x]; simp [hx]), hv, leftSum_congr (left := left) (left' := fun z => left z && !z.sameKey (.string s.data.toList)) (fun y hy => by
        show _ = (left _ && !_)
        rw [hsk y]
        simp [hr y hy])]
      omega
    · have hl' : look r s = some v := by
        unfold look at hl ⊢
        rw [List.find?_cons] at hl
        simpa [hx] using hl
      rw [leftSum_step hk h2 hl', hsk x]
      simp only [hx, decide_false, Bool.not_false, Bool.and_true]
      omega
def used (fs : Files) : Nat := (fs.map fun f => f.2.length).sum
theorem used_eq {w : World} {S : Nat → Prop} : ∀ {vs : List (ByteArray × Value)} {fs : Files}, All2 (FileRow w S) vs fs → (vs.map fun x => lenV x.2).sum = used fs
  | [], [], _ => rfl
  | x :: vs, f :: fs, h => by
    obtain ⟨A, c, e, _⟩ := h.1.2.slice
    unfold used
    rw [List.map_cons, List.map_cons, List.sum_cons, List.sum_cons, used_eq h.2, e]
    rfl
theorem used_le (fs : Files) (h : ∀ p ∈ fs, p.2.length ≤ 65536) : used fs ≤ fs.length * 65536 := by
  induction fs with
  | nil => simp [used]
  | cons f fs ih =>
    have h1 := h f (by simp)
    have h2 := ih (fun p hp => h p (by simp [hp]))
    unfold used at h2 ⊢
    rw [List.map_cons, List.sum_cons, List.length_cons]
    omega
set_option maxRecDepth 100000 in
set_option maxHeartbeats 2000000 in
theorem used_raw (w : World) (g b : Nat) (vs : List (ByteArray × Value)) (T : Nat) (hT : (vs.map fun x => lenV x.2).sum = T) (hTl : T ≤ 1000000000000000) (hown : OwnM w b vs) (c1 : w.cell? ⟨g, 1, none⟩ = some (.map (some b))) :
    Calls Try.prog 32 #[pt g] w fun r w' => r = .returned (.int .i64 (T : Int)) ∧ Below w.heap.size w w' := by
  have hap := own_apart hown
  have hst := leftSum_start vs
  rw [hT] at hst
  have HAP := Lib.hid hap
  have HST := Lib.hid hst
  clear hap hst hT
  go_enter Try.func32, Try.ntmps32
  go_wp2_with (first
    | (at_range; refine wp_range _ rfl _ rfl rfl hown ?_; intro w0 hrg0 hg0 hs0)
    | go_in)
  go_frame
  have H0 := Lib.hid (And.intro hrg0 hg0)
  clear hrg0 hg0 hs0 hown c1
  go_loopw [3] (fun v wr => ∃ (left : Lit → Bool) (cnt acc : Nat), v = .int .i64 (acc : Int) ∧ acc + leftSum vs left = T ∧ wr.ranges Try.prog 9 rdSl b w.heap.size vs.length (mapW vs) left cnt ∧ w.grownBy wr none) (fun _ wr => wr.rangeLeft b w.heap.size)
  case atStart => exact ⟨_, _, 0, rfl, by rw [HST.out]; omega, H0.out.1, H0.out.2⟩
  case round =>
    obtain ⟨left, cnt, acc, rfl, hsum, hrg, hgw⟩ := hrel
    have HGW := Lib.hid hgw
    clear hgw H0
    go_wp2_with (first
      | (at_next; refine wp_next _ rfl _ rfl rfl hrg ?_ ?_)
      | go_in)
    · intro _ hl0
      have h0 := leftSum_none left hl0 vs
      have HE := Lib.hid (show acc = T by omega)
      clear hl0 h0 hsum hrg
      go_wp2_with fail
      go_ret
      rw [HE.out]
      exact ⟨rfl, (Below.refl _ w).grown HGW.out (Nat.le_refl _) (fun j hj => by cases hj)⟩
    · intro s A m c w1 cnt1 hlk hlx hrg1 hlt hg1 hs1 hen
      have hs := leftSum_step hlx HAP.out hlk
      have hm : acc + m ≤ T := by
        have : lenV (.slice A m c) = m := rfl
        omega
      have hs2 : acc + m + leftSum vs (fun z => left z && !z.sameKey (.string s.data.toList)) = T := by
        have : lenV (.slice A m c) = m := rfl
        omega
      have HS2 := Lib.hid hs2
      have HRG := Lib.hid hrg
      have HRG1 := Lib.hid hrg1
      have HG1 := Lib.hid hg1
      clear hs hs2 hsum hrg hrg1 hg1 hlk hlx hs1
      have hb1 : (acc : Int) + m ≤ 1000000000000000 := by omega
      go_wp2_with fail
      refine ⟨⟨_, cnt1, acc + m, by rw [Int.natCast_add], HS2.out, HRG1.out, gb_trans_new HGW.out HG1.out (Nat.le_refl _)⟩, ?_⟩
      rw [HRG1.out.left_eq, HRG.out.left_eq]
      exact hlt
end Go.Proofs.Ytnjdighpdcabcaa
