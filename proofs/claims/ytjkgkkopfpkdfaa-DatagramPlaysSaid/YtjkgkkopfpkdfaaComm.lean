import Derived.Orders
import Derived.Tactics
import Derived.Conc.LoneSelect
namespace Go.Proofs.Ytjkgkkopfpkdfaa
open Go.Conc

/-- Operation i of a region is carried out (wanted or not): the machine comes to a state of which R holds, the operation struck off the list. -/
def OpStep (P : Program) (ops : Array Oper) (i : Nat) (a : Act) (w : World) (R : Act → World → Prop) : Prop :=
  ∀ (b : Frame) (k : List Item) (cs : List Frame) (rest : List Nat), ∃ a' w', R a' w' ∧
    Steps P (lone (b.at a (.inRegion ops (i :: rest) :: k)) cs w) (lone (b.at a' (.inRegion ops rest :: k)) cs w')

/-- The operations l are carried out, one behind the other. -/
def RW (P : Program) (ops : Array Oper) (Q : Exit → Act → World → Prop) (l : List Nat) (a : Act) (w : World) : Prop :=
  ∀ (b : Frame) (k : List Item) (cs : List Frame), ∃ e a' w', Q e a' w' ∧
    Arrives P (lone (b.at a (.inRegion ops l :: k)) cs w) b k cs e a' w'

section
variable {P : Program} {ops : Array Oper} {Q : Exit → Act → World → Prop} {a : Act} {w : World} {R R' : Act → World → Prop}

theorem OpStep.mono {i : Nat} (h : OpStep P ops i a w R) (hr : ∀ a w, R a w → R' a w) : OpStep P ops i a w R' :=
  fun b k cs rest => let ⟨a', w', r, s⟩ := h b k cs rest; ⟨a', w', hr _ _ r, s⟩

theorem RW_nil (h : Q .normal a w) : RW P ops Q [] a w :=
  fun _ _ _ => ⟨.normal, a, w, h, .one step_region_end⟩

theorem RW_cons {i : Nat} {rest : List Nat} (h : OpStep P ops i a w (RW P ops Q rest)) : RW P ops Q (i :: rest) a w := by
  intro b k cs
  obtain ⟨a', w', hR, hs⟩ := h b k cs rest
  obtain ⟨e, a2, w2, hq, harr⟩ := hR b k cs
  exact ⟨e, a2, w2, hq, .of_steps hs harr⟩

theorem OpStep_of_wpOp {i : Nat} (h : wpOp P ops (fun _ _ _ => False) i R a w) : OpStep P ops i a w R := by
  intro b k cs rest
  unfold wpOp at h
  cases ho : ops[i]? with
  | none =>
    simp only [ho] at h
    have hs := step_op_skip (P := P) (b := b) (a := a) (k := k) (cs := cs) (w := w) (ops := ops) (i := i) (rest := rest) (by simp [ho])
    simp only [ho, Option.bind_none, Act.put] at hs
    exact ⟨a, w, h, .one hs⟩
  | some o =>
    simp only [ho] at h
    by_cases hw : Region.wanted o (yielded ops a.tmps) = true
    · simp only [hw, if_true] at h
      rcases h with h | ⟨_, a₀, w₀, hq⟩
      case inr => exact hq.elim
      simp only [Oper.wp, Oper.upon] at h
      have hg := stepG_op (P := P) (b := b) (k := k) (cs := cs) (w := w) (rest := rest) ho hw
      have hfin : ∀ v, (b.at a (.inRegion ops (i :: rest) :: k)).finish v = b.at (a.put o.dst v) (.inRegion ops rest :: k) := by
        intro v; rw [Frame.finish_at, ho]; rfl
      split at h
      · rename_i v w' hr
        refine ⟨_, _, h, .one (step_lone_go ?_)⟩
        rw [hg, ← hfin]; simp [stepG.apply, hr]
      · rename_i w' hr
        refine ⟨_, _, h, .one (step_lone_go ?_)⟩
        rw [hg, ← hfin]; simp [stepG.apply, hr]
      · rename_i d w' hr
        refine ⟨_, _, h, .one (step_lone_go ?_)⟩
        have : ({ b.at a (.inRegion ops (i :: rest) :: k) with defers := d :: a.defers } : Frame).finish undef =
            b.at ({ a with defers := d :: a.defers }.put o.dst undef) (.inRegion ops rest :: k) := by
          have := Frame.finish_at b { a with defers := d :: a.defers } ops i rest k undef
          rw [ho] at this; exact this
        rw [hg]; simp only [stepG.apply, Sem.runT_eq, hr, GStep.bare_after]
        exact congrArg (fun fr => GStep.go { frame := fr, callers := cs, status := .running, dying := none } w') this
      · rename_i f args w' hr
        obtain ⟨e, w'', fr, hR, hsteps, _, hleave⟩ := h (b.at a (.inRegion ops (i :: rest) :: k) :: cs)
        have henter : step P (lone (b.at a (.inRegion ops (i :: rest) :: k)) cs w) =
            .next (lone (Frame.enter P f args .normal) (b.at a (.inRegion ops (i :: rest) :: k) :: cs) w') :=
          step_lone_go (by rw [hg]; simp [stepG.apply, hr, Frame.at])
        cases e with
        | returned v =>
          refine ⟨_, _, hR, .head henter (hsteps.trans (.one ?_))⟩
          rw [← hfin]; exact step_leave_returned hleave
        | panicked chain => exact hR.elim
        | outgrown => obtain ⟨_, _, hq⟩ := hR; exact hq.elim
      · rename_i row args w' hr
        obtain ⟨v, w'', hR, hsteps⟩ := h (b.at a (.inRegion ops (i :: rest) :: k)) cs
        have henter : step P (lone (b.at a (.inRegion ops (i :: rest) :: k)) cs w) =
            .next (lone (Frame.ofRow P row args .normal) (b.at a (.inRegion ops (i :: rest) :: k) :: cs) w') :=
          step_lone_go (by rw [hg]; simp [stepG.apply, hr, Frame.at])
        refine ⟨_, _, hR, .head henter ?_⟩
        rw [← hfin]; exact hsteps
      · exact h.elim
      · exact h.elim
    · simp only [hw, if_false, Bool.false_eq_true] at h
      have hs := step_op_skip (P := P) (b := b) (a := a) (k := k) (cs := cs) (w := w) (ops := ops) (i := i) (rest := rest)
        (by simp [ho]; simpa using hw)
      simp only [ho, Option.bind_some] at hs
      exact ⟨_, _, h, .one hs⟩

theorem RW_pre : ∀ (pre : List Nat) {rest : List Nat} {a : Act} {w : World},
    wpOps P ops (Exit.then (RW P ops Q rest) (fun _ _ _ => False)) pre a w → RW P ops Q (pre ++ rest) a w
  | [], rest, a, w, h => h
  | i :: pre, rest, a, w, h => by
    rw [wpOps_cons] at h
    refine RW_cons (OpStep.mono (OpStep_of_wpOp (R := wpOps P ops (Exit.then (RW P ops Q rest) (fun _ _ _ => False)) pre) ?_) (fun a w hh => RW_pre pre hh))
    unfold wpOp at h ⊢
    split
    · simpa [*] using h
    · rename_i o ho
      simp only [ho] at h
      split
      · rename_i hw
        simp only [hw, if_true] at h
        rcases h with h | ⟨_, a₀, w₀, hq⟩
        · refine .inl ?_
          unfold Oper.wp at h ⊢
          generalize (execOp a.eval o).run P w = r at *
          cases r with
          | ok n w' =>
            cases n <;> simp only [Oper.upon] at h ⊢
            case value => exact h
            case skip => exact h
            case defer => exact h
            case row => exact h
            case enter =>
              refine Calls.mono h fun e w'' he => ?_
              cases e with
              | returned v => exact he
              | panicked c => exact he.elim
              | outgrown => obtain ⟨_, _, hq⟩ := he; exact hq.elim
          | halt x w' =>
            cases x <;> simp only [Oper.upon] at h ⊢
            all_goals exact h.elim
        · exact hq.elim
      · rename_i hw
        rw [if_neg hw] at h
        exact h

/-- As a list of operations that the walk takes: l1 are carried out by the walk, what stands behind them by RW. -/
theorem RW_pre_list {rest : List Nat} (n : Nat) (hn : n ≤ ops.size)
    (h : wpList P ops (Exit.then (RW P ops Q rest) (fun _ _ _ => False)) (ops.toList.take n) a w) : RW P ops Q (List.range n ++ rest) a w := by
  refine RW_pre _ ?_
  have e : List.range n = List.range' 0 (ops.toList.take n).length := by
    rw [List.range_eq_range', List.length_take, Array.length_toList, Nat.min_eq_left hn]
  rw [e]
  have key : ∀ (l : List Oper) (k : Nat), (∀ j, j < l.length → l[j]? = ops[k + j]?) →
      wpOps P ops (Exit.then (RW P ops Q rest) (fun _ _ _ => False)) (List.range' k l.length) = wpList P ops (Exit.then (RW P ops Q rest) (fun _ _ _ => False)) l := by
    intro l
    induction l with
    | nil => intro k _; funext a w; simp [wpOps, wpList]
    | cons o l ih =>
      intro k h
      have h0 : ops[k]? = some o := by simpa using (h 0 (by simp)).symm
      have ih' := ih (k + 1) (fun j hj => by have := h (j + 1) (by simpa using hj); simpa [Nat.add_assoc, Nat.add_comm 1 j] using this)
      funext a w
      simp only [List.length_cons, List.range'_succ, wpOps, h0, wpList, ih']
  rw [key _ 0 (fun j hj => ?_)]
  · exact h
  · rw [Nat.zero_add, List.getElem?_take, if_pos (by rw [List.length_take, Array.length_toList] at hj; omega)]
    simp

/-- What stands behind: by the walk. -/
theorem RW_list (k : Nat) {r : List Nat} {l : List Oper} (he : l = ops.toList.drop k) (hr : r = List.range' k l.length) (h : wpList P ops Q l a w) : RW P ops Q r a w := by
  subst hr
  rw [← wpOps_eq_wpList l k (fun j => by rw [he]; simp)] at h
  exact wp_ops _ a w h

theorem wp_region_rw {id : Nat} (h : RW P ops Q (List.range ops.size) a w) : (Code.region id ops false).wp P Q a w :=
  fun b k cs => let ⟨e, a', w', q, r⟩ := h b k cs; ⟨e, a', w', q, .of_steps (.one step_region) r⟩

theorem wp_region_draw_rw {id : Nat} (h : ∀ t, RW P ops Q (Region.schedule (P.follows .mixedOrders) ops t) a { w with drawn := w.drawn + 1 }) :
    (Code.region id ops true).wp P Q a w :=
  fun b k cs => let ⟨e, a', w', q, r⟩ := h _ b k cs; ⟨e, a', w', q, .of_steps (.one step_region_draw) r⟩

/-- Whatever order is picked. -/
def RWAny (P : Program) (md : Region.Mode) (ops : Array Oper) (Q : Exit → Act → World → Prop) : Nat → Array Bool → Act → World → Prop
  | 0, listed, a, w => Region.ready md ops listed = [] ∧ Q .normal a w
  | fuel + 1, listed, a, w => (Region.ready md ops listed = [] → Q .normal a w) ∧ ∀ i ∈ Region.ready md ops listed, OpStep P ops i a w (RWAny P md ops Q fuel (listed.setIfInBounds i true))

theorem RWAny_sound {md : Region.Mode} : ∀ (fuel t : Nat) (listed : Array Bool) (a : Act) (w : World), RWAny P md ops Q fuel listed a w →
    RW P ops Q (Region.linearise.go md ops fuel t listed []) a w := by
  intro fuel
  induction fuel with
  | zero => intro t listed a w h; simpa [Region.linearise.go] using RW_nil h.2
  | succ fuel ih =>
    intro t listed a w h
    obtain ⟨h₀, h₁⟩ := h
    simp only [Region.linearise.go]
    change RW P ops Q (match (Region.ready md ops listed)[t % (Region.ready md ops listed).length]? with
      | some i => Region.linearise.go md ops fuel (t / (Region.ready md ops listed).length) (listed.setIfInBounds i true) [i]
      | none => [].reverse) a w
    cases hi : (Region.ready md ops listed)[t % (Region.ready md ops listed).length]? with
    | none =>
      have hnil : Region.ready md ops listed = [] := by
        cases hr : Region.ready md ops listed with
        | nil => rfl
        | cons x xs =>
          rw [hr] at hi
          have hlt : t % (x :: xs).length < (x :: xs).length := Nat.mod_lt _ (by simp)
          simp at hi
          simp at hlt
          omega
      exact RW_nil (h₀ hnil)
    | some i =>
      simp only []
      rw [linearise_go_acc, List.reverse_singleton, List.singleton_append]
      exact RW_cons (OpStep.mono (h₁ i (List.mem_of_getElem? hi)) (fun a w => ih _ _ a w))
theorem wp_region_any_rw {id n : Nat} (l : Array Bool) (hm : P.follows .mixedOrders = true) (hn : ops.size = n) (hl : Array.replicate n false = l)
    (h : RWAny P .any ops Q n l a w.drew) : (Code.region id ops true).wp P Q a w := by
  subst hn
  subst hl
  exact wp_region_draw_rw fun t => by
    simp only [Region.schedule, hm, Bool.true_or, if_true]
    exact RWAny_sound ops.size t _ a _ h
theorem RWAny_done {md : Region.Mode} {l : Array Bool} (hr : Region.ready md ops l = []) (h : Q .normal a w) : RWAny P md ops Q 0 l a w := ⟨hr, h⟩
theorem RWAny_one {md : Region.Mode} {fuel i : Nat} {l : Array Bool} (l' : Array Bool) (hr : (Region.ready md ops l == [i] && l.setIfInBounds i true == l') = true) (h : OpStep P ops i a w (RWAny P md ops Q fuel l')) :
    RWAny P md ops Q (fuel + 1) l a w := by
  simp only [Bool.and_eq_true, beq_iff_eq] at hr
  obtain ⟨h1, rfl⟩ := hr
  exact ⟨fun e => by simp [h1] at e, fun j hj => by rw [h1] at hj; obtain rfl := List.mem_singleton.1 hj; exact h⟩
theorem RWAny_two {md : Region.Mode} {fuel i j : Nat} {l : Array Bool} (li lj : Array Bool) (hr : (Region.ready md ops l == [i, j] && l.setIfInBounds i true == li && l.setIfInBounds j true == lj) = true)
    (h : OpStep P ops i a w (RWAny P md ops Q fuel li)) (h2 : OpStep P ops j a w (RWAny P md ops Q fuel lj)) : RWAny P md ops Q (fuel + 1) l a w := by
  simp only [Bool.and_eq_true, beq_iff_eq] at hr
  obtain ⟨⟨h1, rfl⟩, rfl⟩ := hr
  refine ⟨fun e => by simp [h1] at e, fun k hk => ?_⟩
  rw [h1] at hk
  rcases List.mem_cons.1 hk with rfl | hk
  · exact h
  · obtain rfl := List.mem_singleton.1 hk; exact h2
/-- An operation that yields a value and leaves the world. -/
theorem OpStep_val {i : Nat} {o : Oper} {N : Option Tmp} {v : Value} {a' : Act} (ho : ops[i]? = some o) (hg : o.guard = none) (hN : o.dst = N) (hrun : (execOp a.eval o).run P w = .ok (.value v) w)
    (ha : a.put N v = a') (h : R a' w) : OpStep P ops i a w R := by
  subst ha
  subst hN
  refine OpStep_of_wpOp ?_
  unfold wpOp
  simp only [ho, Region.wanted, hg, if_true]
  refine .inl ?_
  unfold Oper.wp
  rw [hrun]
  exact h

/-! ### communications -/
theorem stepG_comm {b : Frame} {k : List Item} {cs : List Frame} {i : Nat} {rest : List Nat} {o : Oper} {cases : Array CommCase} {blocking : Bool} {shape : CommShape} {w₁ : World}
    (ho : ops[i]? = some o) (hw : Region.wanted o (yielded ops a.tmps) = true)
    (hr : (execOp a.eval o).run P w = .ok (.comm cases blocking shape) w₁) :
    ∃ es, stepG P true (G (b.at a (.inRegion ops (i :: rest) :: k)) cs) w = .comm (G (b.at a (.inRegion ops (i :: rest) :: k)) cs) cases blocking shape w₁ es := by
  have hg := stepG_op (P := P) (b := b) (k := k) (cs := cs) (w := w) (rest := rest) ho hw
  have hgen : ∀ (es : Array Event) g, ∃ es', GStep.after es (.comm g cases blocking shape w₁ #[]) = .comm g cases blocking shape w₁ es' := fun es g => ⟨_, rfl⟩
  unfold G
  rw [hg]
  unfold stepG.apply
  simp only [Sem.runT_eq, hr, if_true]
  exact hgen _ _

theorem finish_at' {b : Frame} {k : List Item} {i : Nat} {rest : List Nat} {o : Oper} (ho : ops[i]? = some o) (v : Value) :
    (b.at a (.inRegion ops (i :: rest) :: k)).finish v = b.at (a.put o.dst v) (.inRegion ops rest :: k) := by
  rw [Frame.finish_at, ho]; rfl

variable {c cap s r : Nat} {buf : Array Value} {tm closed : Bool}

theorem OpStep_send {i : Nat} {o : Oper} {ch x : Operand} {v : Value} (ho : ops[i]? = some o) (hg : o.guard = none) (hop : o.op = .send ch x)
    (hch : a.eval ch = .chan (some c)) (hx : a.eval x = v) (hc : w.heap[c]? = some (.chan cap buf false s r tm)) (hroom : buf.size < cap)
    (h : ∀ w1, w1 = w.setChan c cap (buf.push v) false (s + 1) r tm → R (a.put o.dst undef) w1) : OpStep P ops i a w R := by
  intro b k cs rest
  obtain ⟨es, hs⟩ := stepG_comm (P := P) (a := a) (b := b) (k := k) (cs := cs) (rest := rest) (w := w) (cases := #[scase c v (.tuple #[])]) (blocking := true) (shape := .send) (w₁ := w) ho
    (by simp [Region.wanted, hg]) (by simp [execOp, hop, hch, hx, scase])
  have hst := step_lone_send_room hs hc hroom
  rw [finish_at' ho] at hst
  exact ⟨_, _, h _ rfl, .one hst⟩

theorem OpStep_recv {i : Nat} {o : Oper} {ch : Operand} {t e : TypeId} {dir : ChanDir} {z : Value} (ho : ops[i]? = some o) (hg : o.guard = none) (hop : o.op = .recv t ch false)
    (ht : P.underlying t = some (.chan dir e)) (hz : (zeroValue e).run P w = .ok z w)
    (hch : a.eval ch = .chan (some c)) (hc : w.heap[c]? = some (.chan cap buf closed s r tm)) (hsome : 0 < buf.size)
    {v : Value} (hv : buf.getD 0 undef = v) (h : ∀ w1, w1 = w.setChan c cap (buf.extract 1 buf.size) closed s (r + 1) tm → R (a.put o.dst v) w1) : OpStep P ops i a w R := by
  intro b k cs rest
  obtain ⟨es, hs⟩ := stepG_comm (P := P) (a := a) (b := b) (k := k) (cs := cs) (rest := rest) (w := w) (cases := #[rcase c z]) (blocking := true) (shape := .recv false) (w₁ := w) ho
    (by simp [Region.wanted, hg]) (by simp [execOp, hop, hch, rcase, run_underlying ht, hz])
  have hst := step_lone_recv_buf false hs hc hsome
  simp only [got, Bool.false_eq_true, if_false] at hst
  rw [finish_at' ho, hv] at hst
  exact ⟨_, _, h _ rfl, .one hst⟩

/-- A select of one send, with a default: there is room. -/
theorem OpStep_sel_room {i : Nat} {o : Oper} {ch x : Operand} {v : Value} {e : TypeId} {z : Value} (ho : ops[i]? = some o) (hg : o.guard = none)
    (hop : o.op = .select #[{ chan := ch, send := some x, elem := e }] false) (hz : (zeroValue e).run P w = .ok z w)
    (hch : a.eval ch = .chan (some c)) (hx : a.eval x = v) (hc : w.heap[c]? = some (.chan cap buf false s r tm)) (hroom : buf.size < cap)
    (h : ∀ w1, w1 = w.setChan c cap (buf.push v) false (s + 1) r tm → R (a.put o.dst (.tuple #[goInt 0, .bool false])) w1) : OpStep P ops i a w R := by
  intro b k cs rest
  obtain ⟨es, hs⟩ := stepG_comm (P := P) (a := a) (b := b) (k := k) (cs := cs) (rest := rest) (w := w) (cases := #[scase c v z]) (blocking := false) (shape := .select) (w₁ := w) ho
    (by simp [Region.wanted, hg]) (by simp [execOp, hop, hch, hx, scase, hz])
  have hst := step_lone_select_send_room hs hc hroom
  rw [finish_at' ho] at hst
  exact ⟨_, _, h _ rfl, .one hst⟩

/-- .. there is none: the default. -/
theorem OpStep_sel_full {i : Nat} {o : Oper} {ch x : Operand} {v : Value} {e : TypeId} {z : Value} (ho : ops[i]? = some o) (hg : o.guard = none)
    (hop : o.op = .select #[{ chan := ch, send := some x, elem := e }] false) (hz : (zeroValue e).run P w = .ok z w)
    (hch : a.eval ch = .chan (some c)) (hx : a.eval x = v) (hc : w.heap[c]? = some (.chan cap buf false s r tm)) (hfull : cap ≤ buf.size)
    (h : R (a.put o.dst (.tuple #[goInt (-1), .bool false])) w) : OpStep P ops i a w R := by
  intro b k cs rest
  obtain ⟨es, hs⟩ := stepG_comm (P := P) (a := a) (b := b) (k := k) (cs := cs) (rest := rest) (w := w) (cases := #[scase c v z]) (blocking := false) (shape := .select) (w₁ := w) ho
    (by simp [Region.wanted, hg]) (by simp [execOp, hop, hch, hx, scase, hz])
  have hst := step_lone_select_send_full hs hc hfull
  rw [finish_at' ho] at hst
  exact ⟨_, _, h, .one hst⟩
end
end Go.Proofs.Ytjkgkkopfpkdfaa
