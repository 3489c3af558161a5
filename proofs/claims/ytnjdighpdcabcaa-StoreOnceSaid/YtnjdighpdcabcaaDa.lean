/- What a call may turn: the blocks of a set. -/
import Derived.Test.YtnjdighpdcabcaaWWords
import Derived.Test.YtnjdighpdcabcaaWLast
import Derived.Maps.OwnSet
import Derived.Maps.RangeWalk
import Derived.Maps.Ext
import Derived.Test.YtnjdighpdcabcaaProg
import Derived.WalkSpells
import Derived.WalkLawsBesides
import Derived.Lib.LazyBuf
import Derived.Lib.Hide
import Derived.Below
import Derived.Deep.Draws
import Derived.Conc.LoneCalls
import Derived.Test.YtnjdighpdcabcaaWMore
set_option linter.unusedVariables false
set_option linter.unusedSimpArgs false
namespace Go.Proofs.Ytnjdighpdcabcaa
open Go.RowKit Go.Proofs.YtnjdighpdcabcaaW.PrintWords Go.Proofs.YtnjdighpdcabcaaW.PrintLast

/-- From w to w' no block but those of S turned. -/
structure Turns (S : Nat → Prop) (w w' : World) : Prop where
  os : w'.os = w.os
  tape : w'.tape = w.tape
  output : w'.output = w.output
  size : w.heap.size ≤ w'.heap.size
  block : ∀ k, k < w.heap.size → ¬ S k → w'.heap[k]? = w.heap[k]?
section
variable {S S' : Nat → Prop} {w a b c : World}
theorem Turns.refl (S : Nat → Prop) (w : World) : Turns S w w := ⟨rfl, rfl, rfl, Nat.le_refl _, fun _ _ _ => rfl⟩
theorem Turns.of_below (h : Below a.heap.size a b) (S : Nat → Prop) : Turns S a b := ⟨h.os, h.tape, h.output, h.size, fun k hk _ => h.block k hk⟩
theorem Turns.trans (h : Turns S a b) (k : Turns S' b c) (hs : ∀ i, S' i → S i ∨ a.heap.size ≤ i) : Turns S a c :=
  ⟨k.os.trans h.os, k.tape.trans h.tape, k.output.trans h.output, Nat.le_trans h.size k.size, fun i hi hn => (k.block i (Nat.lt_of_lt_of_le hi h.size) (fun h' => by exact (hs i h').elim (fun h2 => hn h2) (fun h2 => absurd hi (by omega)))).trans (h.block i hi hn)⟩
theorem Turns.mono (h : Turns S a b) (hs : ∀ i, S i → S' i ∨ a.heap.size ≤ i) : Turns S' a b :=
  ⟨h.os, h.tape, h.output, h.size, fun i hi hn => h.block i hi (fun h' => by exact (hs i h').elim (fun h2 => hn h2) (fun h2 => absurd hi (by omega)))⟩
theorem Turns.below (h : Turns S a b) (k : Below b.heap.size b c) : Turns S a c := h.trans (Turns.of_below k (fun _ => False)) (fun _ h => h.elim)
theorem Turns.grown {row : Option Nat} (h : Turns S a b) (k : b.grownBy c row) (hr : ∀ i, row = some i → S i ∨ a.heap.size ≤ i) : Turns S a c :=
  h.trans (S' := fun i => row = some i) ⟨k.os, k.tape, k.output, k.size, fun i hi hn => k.block i hi (fun e => hn e.symm)⟩ hr
theorem Turns.set (h : Turns S a b) {p : Addr} (hp : S p.block ∨ a.heap.size ≤ p.block) (u : Value) : Turns S a (b.setCell p u) :=
  h.trans (S' := fun i => i = p.block) ⟨rfl, rfl, rfl, by simp [World.setCell], fun i hi hn => Below.heap_setCell b p u i hn⟩ (fun i e => by subst e; exact hp)
theorem Turns.drew (h : Turns S a b) : Turns S a b.drew := h.below ((Below.refl _ _).drew)
theorem Turns.toBelow {B : Nat} (h : Turns S a b) (hB : B ≤ a.heap.size) (hs : ∀ i, S i → B ≤ i) : Below B a b :=
  ⟨h.os, h.tape, h.output, h.size, fun i hi => h.block i (by omega) (fun h' => by have := hs i h'; omega)⟩
end
theorem Turns.turned {S : Nat → Prop} {a b c : World} {m : Nat} (h : Turns S a b) (k : b.mapTurned c m) (hs : S m ∨ a.heap.size ≤ m) : Turns S a c := h.grown k.grown (fun i e => by cases e; exact hs)
end Go.Proofs.Ytnjdighpdcabcaa
/- Files by their names, rising: plain, and as a map of slices reads. -/
set_option linter.unusedVariables false
set_option linter.unusedSimpArgs false
namespace Go.Proofs.Ytnjdighpdcabcaa
open Go.RowKit Go.Proofs.YtnjdighpdcabcaaW.PrintWords Go.Proofs.YtnjdighpdcabcaaW.PrintLast

section
variable {α β γ : Type}
def bef (a b : ByteArray) : Bool := bytesBefore a.data.toList b.data.toList
theorem bytes_inj {a b : ByteArray} (h : a.data.toList = b.data.toList) : a = b := by
  cases a; cases b
  simp at h
  exact congrArg ByteArray.mk (Array.toList_inj.1 (by simpa using h))
def ins (x : ByteArray × β) : List (ByteArray × β) → List (ByteArray × β)
  | [] => [x]
  | y :: r => if bef x.1 y.1 = true then x :: y :: r else y :: ins x r
def del (l : List (ByteArray × β)) (n : ByteArray) : List (ByteArray × β) := l.filter fun p => !decide (p.1 = n)
def put (l : List (ByteArray × β)) (n : ByteArray) (d : β) : List (ByteArray × β) := ins (n, d) (del l n)
def look (l : List (ByteArray × β)) (n : ByteArray) : Option β := (l.find? fun p => decide (p.1 = n)).map (·.2)

theorem find_ins_same (n : ByteArray) (d : β) : ∀ l : List (ByteArray × β), (∀ p ∈ l, p.1 ≠ n) → (ins (n, d) l).find? (fun p => decide (p.1 = n)) = some (n, d)
  | [], _ => by simp [ins]
  | y :: r, h => by
    unfold ins
    split
    · simp
    · have := h y (by simp)
      simp [this, find_ins_same n d r (fun p hp => h p (by simp [hp]))]
theorem find_ins_other {n m : ByteArray} (hne : n ≠ m) (d : β) : ∀ l : List (ByteArray × β), (ins (n, d) l).find? (fun p => decide (p.1 = m)) = l.find? (fun p => decide (p.1 = m))
  | [] => by simp [ins, hne]
  | y :: r => by
    unfold ins
    split
    · simp [hne]
    · simp [List.find?_cons, find_ins_other hne d r]
theorem mem_ins {x p : ByteArray × β} : ∀ l : List (ByteArray × β), p ∈ ins x l ↔ p = x ∨ p ∈ l
  | [] => by simp [ins]
  | y :: r => by
    unfold ins
    split
    · simp
    · simp only [List.mem_cons, mem_ins r]
      constructor
      · rintro (h | h | h)
        · exact .inr (.inl h)
        · exact .inl h
        · exact .inr (.inr h)
      · rintro (h | h | h)
        · exact .inr (.inl h)
        · exact .inl h
        · exact .inr (.inr h)
theorem length_ins (x : ByteArray × β) : ∀ l : List (ByteArray × β), (ins x l).length = l.length + 1
  | [] => rfl
  | y :: r => by
    unfold ins
    split
    · simp
    · simp [length_ins x r]
theorem mem_del {l : List (ByteArray × β)} {n : ByteArray} {p : ByteArray × β} : p ∈ del l n ↔ p ∈ l ∧ p.1 ≠ n := by
  unfold del
  simp [List.mem_filter]
theorem look_put_same (l : List (ByteArray × β)) (n : ByteArray) (d : β) : look (put l n d) n = some d := by
  unfold look put
  rw [find_ins_same n d _ (fun p hp => (mem_del.1 hp).2)]
  rfl
theorem look_put_other (l : List (ByteArray × β)) {n m : ByteArray} (h : n ≠ m) (d : β) : look (put l n d) m = look (del l n) m := by
  unfold look put
  rw [find_ins_other h]
theorem find_filter_of {α : Type} {f g : α → Bool} (h : ∀ p, f p = true → g p = true) : ∀ l : List α, (l.filter g).find? f = l.find? f
  | [] => rfl
  | y :: r => by
    by_cases hg : g y = true
    · rw [List.filter_cons_of_pos hg, List.find?_cons, List.find?_cons, find_filter_of h r]
    · rw [List.filter_cons_of_neg hg, List.find?_cons, find_filter_of h r]
      cases hf : f y
      · rfl
      · exact absurd (h y hf) hg
theorem look_del_same (l : List (ByteArray × β)) (n : ByteArray) : look (del l n) n = none := by
  unfold look
  rw [List.find?_eq_none.2 (fun p hp => by simpa using (mem_del.1 hp).2)]
  rfl
theorem look_del_other (l : List (ByteArray × β)) {n m : ByteArray} (h : n ≠ m) : look (del l n) m = look l m := by
  unfold look del
  rw [find_filter_of (fun p hp => by
    have : p.1 = m := by simpa using hp
    simp [this, Ne.symm h])]
theorem look_put_far (l : List (ByteArray × β)) {n m : ByteArray} (h : n ≠ m) (d : β) : look (put l n d) m = look l m := by rw [look_put_other l h, look_del_other l h]
theorem length_del (l : List (ByteArray × β)) (n : ByteArray) : (del l n).length ≤ l.length := List.length_filter_le _ _
theorem length_put (l : List (ByteArray × β)) (n : ByteArray) (d : β) : (put l n d).length ≤ l.length + 1 := by
  unfold put
  rw [length_ins]
  have := length_del l n
  omega
theorem look_mem {l : List (ByteArray × β)} {n : ByteArray} {d : β} (h : look l n = some d) : (n, d) ∈ l := by
  unfold look at h
  cases hf : l.find? (fun p => decide (p.1 = n)) with
  | none => rw [hf] at h; cases h
  | some p =>
    rw [hf] at h
    have h1 := List.mem_of_find?_eq_some hf
    have h2 := List.find?_some hf
    simp at h h2
    rw [← h2, ← h]
    exact h1
theorem look_none {l : List (ByteArray × β)} {n : ByteArray} : look l n = none ↔ ∀ p ∈ l, p.1 ≠ n := by
  unfold look
  rw [Option.map_eq_none_iff, List.find?_eq_none]
  simp

/-! ## two lists, element by element -/
def All2 (R : α → β → Prop) : List α → List β → Prop
  | [], [] => True
  | a :: l, b :: m => R a b ∧ All2 R l m
  | _, _ => False
theorem All2.imp {R R' : α → β → Prop} (hR : ∀ a b, R a b → R' a b) : ∀ {l : List α} {m : List β}, All2 R l m → All2 R' l m
  | [], [], _ => trivial
  | _ :: _, _ :: _, h => ⟨hR _ _ h.1, All2.imp hR h.2⟩
theorem All2.length {R : α → β → Prop} : ∀ {l : List α} {m : List β}, All2 R l m → l.length = m.length
  | [], [], _ => rfl
  | _ :: _, _ :: _, h => by simp [All2.length h.2]
theorem All2.get {R : α → β → Prop} : ∀ {l : List α} {m : List β} {i : Nat} {b : β}, All2 R l m → m[i]? = some b → ∃ a, l[i]? = some a ∧ R a b
  | [], [], i, b, _, h => by simp at h
  | a :: l, b' :: m, 0, b, h, hb => by
    simp at hb
    subst hb
    exact ⟨a, by simp, h.1⟩
  | a :: l, b' :: m, i + 1, b, h, hb => by
    obtain ⟨x, hx, hr⟩ := All2.get (i := i) h.2 (by simpa using hb)
    exact ⟨x, by simpa using hx, hr⟩
theorem All2.snoc {R : α → β → Prop} {a : α} {b : β} (hr : R a b) : ∀ {l : List α} {m : List β}, All2 R l m → All2 R (l ++ [a]) (m ++ [b])
  | [], [], _ => ⟨hr, trivial⟩
  | _ :: _, _ :: _, h => ⟨h.1, All2.snoc hr h.2⟩
section
variable {R : ByteArray × β → ByteArray × γ → Prop} (hR : ∀ a b, R a b → a.1 = b.1)
include hR
theorem All2.ins {x : ByteArray × β} {y : ByteArray × γ} (hx : R x y) : ∀ {l : List (ByteArray × β)} {m : List (ByteArray × γ)}, All2 R l m → All2 R (ins x l) (Ytnjdighpdcabcaa.ins y m)
  | [], [], _ => ⟨hx, trivial⟩
  | a :: l, b :: m, h => by
    unfold Ytnjdighpdcabcaa.ins
    rw [hR _ _ hx, hR _ _ h.1]
    split
    · exact ⟨hx, h⟩
    · exact ⟨h.1, All2.ins hx h.2⟩
theorem All2.del (n : ByteArray) : ∀ {l : List (ByteArray × β)} {m : List (ByteArray × γ)}, All2 R l m → All2 R (Ytnjdighpdcabcaa.del l n) (Ytnjdighpdcabcaa.del m n)
  | [], [], _ => trivial
  | a :: l, b :: m, h => by
    unfold Ytnjdighpdcabcaa.del
    rw [List.filter_cons, List.filter_cons, hR _ _ h.1]
    split
    · exact ⟨h.1, All2.del n h.2⟩
    · exact All2.del n h.2
theorem All2.put {n : ByteArray} {d : β} {d' : γ} (hd : R (n, d) (n, d')) {l : List (ByteArray × β)} {m : List (ByteArray × γ)} (h : All2 R l m) : All2 R (Ytnjdighpdcabcaa.put l n d) (Ytnjdighpdcabcaa.put m n d') := All2.ins hR hd (All2.del hR n h)
theorem All2.look (n : ByteArray) : ∀ {l : List (ByteArray × β)} {m : List (ByteArray × γ)}, All2 R l m → (Ytnjdighpdcabcaa.look l n = none ∧ Ytnjdighpdcabcaa.look m n = none) ∨ ∃ d d', Ytnjdighpdcabcaa.look l n = some d ∧ Ytnjdighpdcabcaa.look m n = some d' ∧ R (n, d) (n, d')
  | [], [], _ => Or.inl ⟨rfl, rfl⟩
  | a :: l, b :: m, h => by
    unfold Ytnjdighpdcabcaa.look
    rw [List.find?_cons, List.find?_cons, hR _ _ h.1]
    by_cases hb : b.1 = n
    · simp only [hb, decide_true, Option.map_some]
      refine Or.inr ⟨_, _, rfl, rfl, ?_⟩
      have ha : a.1 = n := (hR _ _ h.1).trans hb
      have h1 := h.1
      cases a
      cases b
      simp only at ha hb
      subst ha hb
      exact h1
    · simp only [hb, decide_false]
      exact All2.look n h.2
end

/-! ## as a map reads -/
end
def entW (x : ByteArray × Value) : Lit × DataW Value := (.string x.1.data.toList, .held x.2)
abbrev mapW (vs : List (ByteArray × Value)) : DataW Value := .map (vs.map entW)
theorem entW_ins (x : ByteArray × Value) : ∀ l : List (ByteArray × Value), DataW.insert (entW x) (l.map entW) = (ins x l).map entW
  | [] => rfl
  | y :: r => by
    unfold ins
    rw [List.map_cons, DataW.insert]
    have e : (entW x).1.before (entW y).1 = bef x.1 y.1 := rfl
    rw [e, entW_ins x r]
    split <;> rfl
theorem same_key (x : ByteArray × Value) (n : ByteArray) : (entW x).1.sameKey (.string n.data.toList) = decide (x.1 = n) := by
  show (x.1.data.toList == n.data.toList) = _
  rw [Bool.eq_iff_iff, beq_iff_eq, decide_eq_true_iff]
  exact ⟨bytes_inj, fun h => by rw [h]⟩
theorem mapW_filter (l : List (ByteArray × Value)) (n : ByteArray) : (l.map entW).filter (fun p => !p.1.sameKey (.string n.data.toList)) = (del l n).map entW := by
  unfold del
  rw [List.filter_map]
  congr 1
  refine List.filter_congr (fun x _ => ?_)
  show (!(entW x).1.sameKey _) = _
  rw [same_key]
theorem mapW_del (l : List (ByteArray × Value)) (n : ByteArray) : (mapW l).del (.string n.data.toList) = mapW (del l n) := congrArg DataW.map (mapW_filter l n)
theorem mapW_put (l : List (ByteArray × Value)) (n : ByteArray) (v : Value) : (mapW l).put (.string n.data.toList) (.held v) = mapW (put l n v) := by
  show DataW.map (DataW.insert (entW (n, v)) ((l.map entW).filter _)) = _
  rw [mapW_filter, entW_ins]
  rfl
theorem mapW_find (l : List (ByteArray × Value)) (n : ByteArray) : (l.map entW).find? (fun p => p.1.sameKey (.string n.data.toList)) = (l.find? fun p => decide (p.1 = n)).map entW := by
  rw [List.find?_map]
  congr 1
  congr 1
  funext x
  exact same_key x n
theorem any_find {α : Type} (f : α → Bool) : ∀ l : List α, l.any f = (l.find? f).isSome
  | [] => rfl
  | a :: l => by
    rw [List.any_cons, List.find?_cons, any_find f l]
    cases f a <;> rfl
theorem mapW_has (l : List (ByteArray × Value)) (n : ByteArray) : Maps.has (mapW l) (.string n.data.toList) = (look l n).isSome := by
  show (l.map entW).any _ = _
  unfold look
  rw [any_find, mapW_find]
  cases l.find? fun p => decide (p.1 = n) <;> rfl
theorem mapW_at (l : List (ByteArray × Value)) (n : ByteArray) (z : Value) : (mapW l).atKey (.string n.data.toList) (.held z) = .held ((look l n).getD z) := by
  unfold mapW DataW.atKey
  simp only
  rw [mapW_find]
  unfold look
  cases l.find? fun p => decide (p.1 = n) <;> rfl
end Go.Proofs.Ytnjdighpdcabcaa
set_option linter.unusedVariables false
set_option linter.unusedSimpArgs false
namespace Go.Proofs.Ytnjdighpdcabcaa
open Go.RowKit Go.Proofs.YtnjdighpdcabcaaW.PrintWords

theorem infoU8 : (Try.prog.info? 5).map (fun i => (i.zero, i.size, i.bytes)) = some (some (.int .u8 0), 1, 1) := by kernel_rfl

set_option maxHeartbeats 400000 in
theorem clone_nil (c : Nat) (w : World) :
    Calls Try.prog 28 #[.slice none 0 c] w fun e w' => e = .returned (.slice none 0 0) ∧ w = w' := by
  have hn := fun (w : World) (n c : Nat) => Lib.run_eql_slice_nil (P := Try.prog) w 32 5 none n c 0 0 Try.underlying32
  go_enter Try.func28, Try.ntmps28
  go_wp2
  go_ret
  exact ⟨rfl, rfl⟩

set_option maxHeartbeats 400000 in
theorem clone_some (ad : Addr) (c : Nat) (l : List Int) (w : World) (h : ReadsInt w .u8 (some ad) l.length l) (hc : l.length ≤ c) (hl : l.length ≤ 140737488351232) :
    Calls Try.prog 28 #[.slice (some ad) l.length c] w fun e w' => ∃ v, e = .returned v ∧ Kd.R (Kd.int .u8) 5 w' w.heap.size (fun _ => True) v l ∧ Below w.heap.size w w' ∧ v ≠ .slice none 0 0 := by
  have hn := fun (w : World) (ad : Addr) (n c : Nat) => Lib.run_eql_slice_nil (P := Try.prog) w 32 5 (some ad) n c 0 0 Try.underlying32
  have hr := h
  have HR := Lib.hid h
  clear h hr
  go_enter Try.func28, Try.ntmps28
  go_wp2_with (at_builtin; refine print_append_row (w0 := w) w.heap.size rfl _ _ 32 5 .u8 1 rfl Try.underlying32 infoU8 (by decide) _ [] l _ _ _ rfl rfl ?ho ?hr ?hb ?hs ?hl ?hk)
  case ho => exact World.ownsRow_made w _ 0 (Nat.le_refl _) (by decide) rfl
  case hr => exact HR.out.below ((Below.refl _ _).alloc (Nat.le_refl _) _)
  case hb => exact (Below.refl _ _).alloc (Nat.le_refl _) _
  case hs => simp
  case hl => simp; omega
  case hk =>
    intro v1 w1 ho hB hg hat
    have HO := Lib.hid ho
    have HT := Lib.hid hat
    clear ho hat
    go_wp2
    go_ret
    refine ⟨v1, rfl, Kd.R_of_own HO.out (fun _ _ => trivial), hB, ?_⟩
    rintro rfl
    rcases HT.out with h | ⟨b, h, _⟩ <;> simp [Value.ownBlock] at h

/-- bytes.Clone of any bytes: bytes of its own. -/
theorem clone_any (A : Option Addr) (c : Nat) (l : List Int) (w : World) (h : Kd.C (Kd.int .u8) w A l.length l) (hc : l.length ≤ c) (hl : l.length ≤ 140737488351232) :
    Calls Try.prog 28 #[.slice A l.length c] w fun e w' => ∃ v, e = .returned v ∧ Kd.R (Kd.int .u8) 5 w' w.heap.size (fun _ => True) v l ∧ Below w.heap.size w w' := by
  cases A with
  | none =>
    have h0 : l = [] := by
      rcases h with ⟨_, _, h3⟩
      cases l with
      | nil => rfl
      | cons x l => obtain ⟨ad, e, _⟩ := h3 (by simp); cases e
    subst h0
    refine (clone_nil c w).mono ?_
    rintro e w' ⟨rfl, rfl⟩
    exact ⟨_, rfl, Kd.R_nil _ _ _ _ _, Below.refl _ _⟩
  | some ad =>
    refine (clone_some ad c l w ?_ hc hl).mono ?_
    · exact Kd.reads_of_C (enc := Value.int .u8) (d := (0 : Int)) (h1 := fun _ => rfl) h
    · rintro e w' ⟨v, rfl, h1, h2, _⟩
      exact ⟨v, rfl, h1, h2⟩
end Go.Proofs.Ytnjdighpdcabcaa
/- A map of slices in memory that holds files. -/
set_option linter.unusedVariables false
set_option linter.unusedSimpArgs false
namespace Go.Proofs.Ytnjdighpdcabcaa
open Go.RowKit Go.Proofs.YtnjdighpdcabcaaW.PrintWords Go.Proofs.YtnjdighpdcabcaaW.PrintLast

theorem keyS : Maps.Keyed Try.prog 9 := Maps.string_keyed Try.underlying9
theorem underF : Try.prog.underlying 50 = some (.map 9 32) := by kernel_rfl
theorem zeroSl (w : World) : (zeroValue 32).run Try.prog w = .ok (.slice none 0 0) w := by kernel_rfl
def rdSl : Value → Option (DataW Value × List MemPlace)
  | .slice A n c => some (.held (.slice A n c), [])
  | _ => none
theorem rdSl_inv {v : Value} {z : DataW Value × List MemPlace} (h : rdSl v = some z) : (∃ x : Option Addr × Nat × Nat, v = .slice x.1 x.2.1 x.2.2) ∧ z = (.held v, []) := by
  cases v <;> simp [rdSl] at h
  exact ⟨⟨⟨_, _, _⟩, rfl⟩, h.symm⟩
theorem hkey_of {s : ByteArray} (hs : s.size ≤ maxLen) : keyOf Try.prog 9 (.string s) = some (.string s.data.toList) := WideMaps.keyOf_string_mk Try.underlying9 hs
/-- Block b is a map with these names and slices. -/
def OwnM (w : World) (b : Nat) (vs : List (ByteArray × Value)) : Prop := w.ownsMap Try.prog 9 rdSl b vs.length (mapW vs)
theorem own_tight {w : World} {b n : Nat} {vs : List (ByteArray × Value)} (h : w.ownsMap Try.prog 9 rdSl b n (mapW vs)) : OwnM w b vs := by
  obtain ⟨es, clock, hb, F, hs, hD⟩ := h
  refine ⟨es, clock, hb, F, ?_, hD⟩
  have h1 := congrArg Maps.size hD
  simp only [Maps.size, mapW, length_sorted, List.length_map, Array.length_toList] at h1
  omega
theorem own_move {w w' : World} {b n : Nat} {D : DataW Value} (h : w.ownsMap Try.prog 9 rdSl b n D) (hb : w'.heap[b]? = w.heap[b]?) : w'.ownsMap Try.prog 9 rdSl b n D := by
  obtain ⟨es, clock, h1, r⟩ := h
  exact ⟨es, clock, hb.trans h1, r⟩
theorem own_made (w : World) : OwnM (w.alloc (.map #[] 0)) w.heap.size [] := World.ownsMap_made w _ _ _
theorem OwnM.lt {w : World} {b : Nat} {vs : List (ByteArray × Value)} (h : OwnM w b vs) : b < w.heap.size := World.ownsMap.lt h
theorem OwnM.ne {w : World} {b g : Nat} {vs : List (ByteArray × Value)} {cs : Array Value} {t : TypeId} {fr : Nat × Nat} (h : OwnM w b vs) (hg : w.heap[g]? = some (.cells cs t fr)) : g ≠ b := by
  obtain ⟨es, clock, h1, _⟩ := h
  rintro rfl
  rw [h1] at hg
  cases hg
section
variable {w : World} {b : Nat} {vs : List (ByteArray × Value)}
theorem held_inj {a c : Value} (h : (DataW.held a : DataW Value) = .held c) : a = c := DataW.held.inj h
/-- 'v, ok := m[s]'. -/
theorem OwnM.look_ok (h : OwnM w b vs) {s : ByteArray} (hs : s.size ≤ maxLen) :
    (Instr.lookup 50 (.map (some b)) (.string s) true).run Try.prog w = .ok (.tuple #[(look vs s).getD (.slice none 0 0), .bool (look vs s).isSome]) w := by
  obtain ⟨v, ps, hrun, hv⟩ := World.ownsMap.look_ok h keyS underF (zeroSl w) (zd := .held (.slice none 0 0)) (zp := []) rfl (hkey_of hs)
  rw [mapW_has] at hrun
  rw [mapW_at] at hv
  rw [hrun, held_inj (congrArg Prod.fst (rdSl_inv hv).2)]
/-- 'm[s]'. -/
theorem OwnM.look1 (h : OwnM w b vs) {s : ByteArray} (hs : s.size ≤ maxLen) :
    (Instr.lookup 50 (.map (some b)) (.string s) false).run Try.prog w = .ok ((look vs s).getD (.slice none 0 0)) w := by
  obtain ⟨v, ps, hrun, hv⟩ := World.ownsMap.lookup h keyS underF (zeroSl w) (zd := .held (.slice none 0 0)) (zp := []) rfl (hkey_of hs)
  rw [mapW_at] at hv
  rw [hrun, held_inj (congrArg Prod.fst (rdSl_inv hv).2)]
/-- 'm[s] = v'. -/
theorem OwnM.update (h : OwnM w b vs) {s : ByteArray} (hs : s.size ≤ maxLen) (hn : vs.length < maxLen) (A : Option Addr) (n c : Nat) :
    ∃ w', (Instr.mapUpdate 50 (.map (some b)) (.string s) (.slice A n c)).run Try.prog w = .ok () w' ∧ OwnM w' b (put vs s (.slice A n c)) ∧ w.mapTurned w' b := by
  obtain ⟨w', hrun, hown, ht⟩ := World.ownsMap.store h keyS underF hn (hkey_of hs) (d := .held (.slice A n c)) (ps := []) (show rdSl (.slice A n c) = _ from rfl)
  rw [mapW_put] at hown
  exact ⟨w', hrun, own_tight hown, ht⟩
/-- 'delete(m, s)'. -/
theorem OwnM.drop (h : OwnM w b vs) {s : ByteArray} (hs : s.size ≤ maxLen) (ty : TypeId) :
    ∃ w', (Builtin.delete_ #[50, 9] ty #[.map (some b), .string s]).run Try.prog w = .ok (.tuple #[]) w' ∧ OwnM w' b (del vs s) ∧ w.mapTurned w' b := by
  obtain ⟨w', hrun, hown, ht⟩ := World.ownsMap.drop h keyS underF (hkey_of hs) ty
  rw [mapW_del] at hown
  exact ⟨w', hrun, own_tight hown, ht⟩
/-- 'len(m)'. -/
theorem OwnM.len (h : OwnM w b vs) (ty : TypeId) : (Builtin.len_ #[50] ty #[.map (some b)]).run Try.prog w = .ok (.int .i64 (vs.length : Int)) w := by
  have := World.ownsMap.len h underF ty
  simpa [Maps.size] using this
end

/-! ## at the operation, for the walk -/
section
variable (w : World) {ops : Array Oper} {rest : List Oper} {o : Oper} {a : Act} {Q : Exit → Act → World → Prop} {b : Nat} {vs : List (ByteArray × Value)}
theorem wp_look_ok (hg : o.guard = none) (m x : Operand) (hop : o.op = Op.lookup 50 m x true) (hown : OwnM w b vs) (s : ByteArray) (hs : s.size ≤ maxLen) (hm : a.eval m = .map (some b)) (hx : a.eval x = .string s)
    (hK : wpList Try.prog ops Q rest (a.put o.dst (.tuple #[(look vs s).getD (.slice none 0 0), .bool (look vs s).isSome])) w) : wpList Try.prog ops Q (o :: rest) a w := by
  refine wpList_plain hg fun K' hK' => ?_
  unfold Oper.wp
  simp [execOp, hop, hm, hx, hown.look_ok hs, Result.andThen]
  exact hK' _ _ hK
theorem wp_look1 (hg : o.guard = none) (m x : Operand) (hop : o.op = Op.lookup 50 m x false) (hown : OwnM w b vs) (s : ByteArray) (hs : s.size ≤ maxLen) (hm : a.eval m = .map (some b)) (hx : a.eval x = .string s)
    (hK : wpList Try.prog ops Q rest (a.put o.dst ((look vs s).getD (.slice none 0 0))) w) : wpList Try.prog ops Q (o :: rest) a w := by
  refine wpList_plain hg fun K' hK' => ?_
  unfold Oper.wp
  simp [execOp, hop, hm, hx, hown.look1 hs, Result.andThen]
  exact hK' _ _ hK
theorem wp_update (hg : o.guard = none) (m x v : Operand) (hop : o.op = Op.mapUpdate 50 m x v) (hown : OwnM w b vs) (s : ByteArray) (hs : s.size ≤ maxLen) (hn : vs.length < maxLen) (A : Option Addr) (n c : Nat)
    (hm : a.eval m = .map (some b)) (hx : a.eval x = .string s) (hv : a.eval v = .slice A n c)
    (hK : ∀ w', OwnM w' b (put vs s (.slice A n c)) → w.mapTurned w' b → wpList Try.prog ops Q rest (a.put o.dst undef) w') : wpList Try.prog ops Q (o :: rest) a w := by
  refine wpList_plain hg fun K' hK' => ?_
  obtain ⟨w', hrun, r1, r2⟩ := hown.update hs hn A n c
  unfold Oper.wp
  simp [execOp, hop, hm, hx, hv, hrun, Result.andThen]
  exact hK' _ _ (hK w' r1 r2)
theorem wp_delete (hg : o.guard = none) (m x : Operand) (hop : o.op = Op.call { callee := Callee.builtin Builtin.delete, args := #[m, x], argTypes := #[50, 9] }) (hown : OwnM w b vs) (s : ByteArray) (hs : s.size ≤ maxLen)
    (hm : a.eval m = .map (some b)) (hx : a.eval x = .string s) (hK : ∀ w', OwnM w' b (del vs s) → w.mapTurned w' b → wpList Try.prog ops Q rest (a.put o.dst (.tuple #[])) w') : wpList Try.prog ops Q (o :: rest) a w := by
  refine wpList_plain hg fun K' hK' => ?_
  obtain ⟨w', hrun, r1, r2⟩ := hown.drop hs o.type
  unfold Oper.wp
  simp [execOp, hop, resolve, invoke, builtin, hm, hx, hrun, Result.andThen]
  exact hK' _ _ (hK w' r1 r2)
end

/-! ## files -/
/-- A slice of bytes that lies in blocks that S has not. -/
def TextAt (w : World) (S : Nat → Prop) (v : Value) (t : List Int) : Prop := ∃ F, Kd.R (Kd.int .u8) 5 w 0 F v t ∧ ∀ k, F k → ¬ S k
def FileRow (w : World) (S : Nat → Prop) (x : ByteArray × Value) (f : ByteArray × List Int) : Prop := x.1 = f.1 ∧ TextAt w S x.2 f.2
abbrev Files := List (ByteArray × List Int)
def MapAt (w : World) (S : Nat → Prop) (b : Nat) (fs : Files) : Prop := ∃ vs, OwnM w b vs ∧ All2 (FileRow w S) vs fs
section
variable {w w' : World} {S S' : Nat → Prop} {b : Nat} {fs : Files} {v : Value} {t : List Int}
theorem TextAt.slice (h : TextAt w S v t) : ∃ A c, v = .slice A t.length c ∧ t.length ≤ c ∧ Kd.C (Kd.int .u8) w A t.length t := by
  obtain ⟨F, hR, _⟩ := h
  exact Kd.R_reads hR
/-- The world has turned outside of it; S' is of S, and of what is new. -/
theorem TextAt.step (h : TextAt w S v t) (k : Turns S w w') (hs : ∀ i, S' i → S i ∨ w.heap.size ≤ i) : TextAt w' S' v t := by
  obtain ⟨F, hR, hF⟩ := h
  refine ⟨_, Kd.R_mono (Kd.R_step (Kd.R_bound hR) (fun i hi hl => k.block i hl (hF i hi.1))) (fun i hi => (⟨hi.1, hi.2.2.1⟩ : F i ∧ i < w.heap.size)), fun i hi h' => ?_⟩
  rcases hs i h' with h2 | h2
  · exact hF i hi.1 h2
  · omega
theorem TextAt.made {B : Nat} {F : Nat → Prop} (h : Kd.R (Kd.int .u8) 5 w B F v t) (hS : ∀ i, S i → i < B) : TextAt w S v t := by
  refine ⟨_, Kd.R_lower (Kd.R_mono (Kd.R_bound h) (fun i hi => (hi.2.1 : B ≤ i))) (Nat.zero_le _), fun i hi h' => ?_⟩
  have := hS i h'
  omega
theorem FileRow.step {x : ByteArray × Value} {f : ByteArray × List Int} (h : FileRow w S x f) (k : Turns S w w') (hs : ∀ i, S' i → S i ∨ w.heap.size ≤ i) : FileRow w' S' x f := ⟨h.1, h.2.step k hs⟩
theorem fileRow_name : ∀ (a : ByteArray × Value) (b : ByteArray × List Int), FileRow w S a b → a.1 = b.1 := fun _ _ h => h.1
theorem MapAt.move (h : MapAt w S b fs) (k : Turns S w w') (hb : w'.heap[b]? = w.heap[b]?) (hs : ∀ i, S' i → S i ∨ w.heap.size ≤ i) : MapAt w' S' b fs := by
  obtain ⟨vs, h1, h2⟩ := h
  exact ⟨vs, own_move h1 hb, h2.imp (fun _ _ h => h.step k hs)⟩
theorem MapAt.step {S2 : Nat → Prop} (h : MapAt w S b fs) (k : Turns S2 w w') (hb : ¬ S2 b) (hS2 : ∀ i, S2 i → S i) (hs : ∀ i, S' i → S i ∨ w.heap.size ≤ i) : MapAt w' S' b fs := by
  obtain ⟨vs, h1, h2⟩ := id h
  exact h.move (k.mono (fun i hi => .inl (hS2 i hi))) (k.block b h1.lt hb) hs
theorem MapAt.below (h : MapAt w S b fs) (k : Below w.heap.size w w') : MapAt w' S b fs := h.step (S2 := fun _ => False) (Turns.of_below k _) (fun h => h) (fun _ h => h.elim) (fun _ h => .inl h)
theorem MapAt.lt (h : MapAt w S b fs) : b < w.heap.size := by
  obtain ⟨vs, h1, _⟩ := h
  exact h1.lt
theorem MapAt.ne {g : Nat} {cs : Array Value} {t : TypeId} {fr : Nat × Nat} (h : MapAt w S b fs) (hg : w.heap[g]? = some (.cells cs t fr)) : g ≠ b := by
  obtain ⟨vs, h1, _⟩ := h
  exact h1.ne hg
/-- A file is written. -/
theorem MapAt.write (h : MapAt w S b fs) (hSb : S b) {s : ByteArray} {vs : List (ByteArray × Value)} (h2 : All2 (FileRow w S) vs fs) (ht : TextAt w S v t) (hown : OwnM w' b (put vs s v)) (k : w.mapTurned w' b) : MapAt w' S b (put fs s t) := by
  have hT : Turns S w w' := (Turns.refl S w).turned k (.inl hSb)
  exact ⟨_, hown, All2.put fileRow_name (n := s) ⟨rfl, ht.step hT (fun _ h => .inl h)⟩ (h2.imp (fun _ _ h => h.step hT (fun _ h => .inl h)))⟩
theorem MapAt.remove (h : MapAt w S b fs) (hSb : S b) {s : ByteArray} {vs : List (ByteArray × Value)} (h2 : All2 (FileRow w S) vs fs) (hown : OwnM w' b (del vs s)) (k : w.mapTurned w' b) : MapAt w' S b (del fs s) := by
  have hT : Turns S w w' := (Turns.refl S w).turned k (.inl hSb)
  exact ⟨_, hown, All2.del fileRow_name s (h2.imp (fun _ _ h => h.step hT (fun _ h => .inl h)))⟩
end
end Go.Proofs.Ytnjdighpdcabcaa
/- Changes of files as closures; what a closure does to a map. -/
set_option linter.unusedVariables false
set_option linter.unusedSimpArgs false
namespace Go.Proofs.Ytnjdighpdcabcaa
open Go.RowKit Go.Proofs.YtnjdighpdcabcaaW.PrintWords Go.Proofs.YtnjdighpdcabcaaW.PrintLast

/-- A change: t is written to a (k = 0); a gets the name b (1); a is removed. -/
structure Chg where
  k : Nat
  a : ByteArray
  b : ByteArray
  t : List Int
def appl (fs : Files) (c : Chg) : Files :=
  if c.k = 0 then put fs c.a c.t else if c.k = 1 then (match look fs c.a with | some t => put (del fs c.a) c.b t | none => fs) else del fs c.a
theorem length_appl (fs : Files) (c : Chg) : (appl fs c).length ≤ fs.length + 1 := by
  unfold appl
  split
  · exact length_put _ _ _
  · split
    · split
      · have := length_put (del fs c.a) c.b (by assumption)
        have := length_del fs c.a
        omega
      · omega
    · have := length_del fs c.a
      omega
/-- A cell of its own, in a block that S has not. -/
def Box (w : World) (S : Nat → Prop) (b : Nat) (v : Value) : Prop := w.cell? ⟨b, 0, none⟩ = some v ∧ ¬ S b
abbrev FnV := Nat × Array Value
def encFn (x : FnV) : Value := .func (.func x.1) #[] x.2
abbrev kFn : Kd FnV := Kd.scalar encFn (fun _ => rfl)
abbrev pt (b : Nat) : Value := .pointer (some ⟨b, 0, none⟩)
def isRem (x : FnV) (b1 : Nat) : Prop := False
/-- A closure that does a change. -/
def FnAt (w : World) (S : Nat → Prop) (x : FnV) (c : Chg) : Prop :=
  c.a.size ≤ maxLen ∧ c.b.size ≤ maxLen ∧
  ((c.k = 0 ∧ ∃ b1 b2 v, x = (33, #[pt b1, pt b2]) ∧ Box w S b1 v ∧ TextAt w S v c.t ∧ Box w S b2 (.string c.a)) ∨
   (c.k = 1 ∧ ∃ b1 b2, x = (47, #[pt b1, pt b2]) ∧ Box w S b1 (.string c.a) ∧ Box w S b2 (.string c.b)) ∨
   (c.k = 2 ∧ ∃ b1, isRem x b1 ∧ Box w S b1 (.string c.a)))
section
variable {w w' : World} {S S' : Nat → Prop}
theorem Box.lt {b : Nat} {v : Value} (h : Box w S b v) : b < w.heap.size := World.block_lt_of_cell? w _ h.1
theorem Box.step {b : Nat} {v : Value} (h : Box w S b v) (k : Turns S w w') (hs : ∀ i, S' i → S i ∨ w.heap.size ≤ i) : Box w' S' b v := by
  refine ⟨?_, fun h' => ?_⟩
  · have hb := k.block b h.lt h.2
    have h1 := h.1
    unfold World.cell? at h1 ⊢
    simp only [hb]
    exact h1
  · rcases hs b h' with h2 | h2
    · exact h.2 h2
    · have := h.lt
      omega
theorem FnAt.step {x : FnV} {c : Chg} (h : FnAt w S x c) (k : Turns S w w') (hs : ∀ i, S' i → S i ∨ w.heap.size ≤ i) : FnAt w' S' x c := by
  obtain ⟨ha, hb, h⟩ := h
  refine ⟨ha, hb, ?_⟩
  rcases h with ⟨h0, b1, b2, v, e, h1, h2, h3⟩ | ⟨h0, b1, b2, e, h1, h2⟩ | ⟨h0, b1, e, h1⟩
  · exact .inl ⟨h0, b1, b2, v, e, h1.step k hs, h2.step k hs, h3.step k hs⟩
  · exact .inr (.inl ⟨h0, b1, b2, e, h1.step k hs, h2.step k hs⟩)
  · exact .inr (.inr ⟨h0, b1, e, h1.step k hs⟩)
end
set_option maxRecDepth 100000 in
theorem do_write (w : World) (b b1 b2 : Nat) (vs : List (ByteArray × Value)) (s : ByteArray) (hs : s.size ≤ maxLen) (hn : vs.length < maxLen) (A : Option Addr) (n c : Nat) (hown : OwnM w b vs)
    (h1 : w.cell? ⟨b1, 0, none⟩ = some (.slice A n c)) (h2 : w.cell? ⟨b2, 0, none⟩ = some (.string s)) :
    Calls Try.prog 33 #[.map (some b), pt b1, pt b2] w fun e w' => e = .returned (.tuple #[]) ∧ OwnM w' b (put vs s (.slice A n c)) ∧ w.mapTurned w' b := by
  go_enter Try.func33, Try.ntmps33
  go_wp2_with (first
    | (at_mapUpdate; refine wp_update _ rfl _ _ _ rfl hown s hs hn A n c rfl rfl rfl ?_; intro w1 ho1 ht1)
    | go_in)
  go_end0
  exact ⟨rfl, ho1, ht1⟩
set_option maxRecDepth 100000 in
theorem do_rename (w : World) (b b1 b2 : Nat) (vs : List (ByteArray × Value)) (s s2 : ByteArray) (hs : s.size ≤ maxLen) (hs2 : s2.size ≤ maxLen) (hn : vs.length < maxLen) (hown : OwnM w b vs)
    (hsl : ∀ v, look vs s = some v → ∃ A n c, v = .slice A n c) (h1 : w.cell? ⟨b1, 0, none⟩ = some (.string s)) (h2 : w.cell? ⟨b2, 0, none⟩ = some (.string s2)) (hb : b ≠ b2) :
    Calls Try.prog 47 #[.map (some b), pt b1, pt b2] w fun e w' => e = .returned (.tuple #[]) ∧ OwnM w' b (match look vs s with | some v => put (del vs s) s2 v | none => vs) ∧ w.mapTurned w' b := by
  have hd : (del vs s).length < maxLen := Nat.lt_of_le_of_lt (length_del _ _) hn
  have HN := Lib.hid hd
  clear hd hn
  cases hl : look vs s with
  | none =>
    have hlk := hown.look_ok hs
    rw [hl] at hlk
    simp only [Option.getD_none, Option.isSome_none] at hlk
    clear hl hsl
    go_enter Try.func47, Try.ntmps47
    go_wp2_with fail
    go_end0
    exact ⟨rfl, hown, World.ownsMap.turned_refl hown⟩
  | some v =>
    obtain ⟨A, n, c, rfl⟩ := hsl v hl
    have hlk := hown.look_ok hs
    rw [hl] at hlk
    simp only [Option.getD_some, Option.isSome_some] at hlk
    clear hl hsl
    go_enter Try.func47, Try.ntmps47
    go_wp2_with (first
      | (at_delete; refine wp_delete _ rfl _ _ rfl hown s hs rfl rfl ?_; intro w1 ho1 ht1; have h2' := ht1.grown.cell h2 (fun e => hb (by cases e; rfl)))
      | (at_mapUpdate; refine wp_update _ rfl _ _ _ rfl ho1 s2 hs2 HN.out A n c rfl rfl rfl ?_; intro w2 ho2 ht2)
      | go_in)
    go_end0
    exact ⟨rfl, ho2, ht1.trans ht2⟩
end Go.Proofs.Ytnjdighpdcabcaa
set_option linter.unusedVariables false
namespace Go.Proofs.Ytnjdighpdcabcaa
open Go.RowKit Go.Conc

theorem gb_refl (w : World) (row : Option Nat) : w.grownBy w row := ⟨rfl, rfl, rfl, Nat.le_refl _, fun _ _ _ => rfl⟩
theorem gb_trans {a b c : World} {row : Option Nat} (h : a.grownBy b row) (k : b.grownBy c row) : a.grownBy c row :=
  ⟨k.os.trans h.os, k.tape.trans h.tape, k.output.trans h.output, Nat.le_trans h.size k.size, fun i hi hne => (k.block i (Nat.lt_of_lt_of_le hi h.size) hne).trans (h.block i hi hne)⟩
theorem gb_below {a b : World} (h : Below a.heap.size a b) (row : Option Nat) : a.grownBy b row := ⟨h.os, h.tape, h.output, h.size, fun i hi _ => h.block i hi⟩
/-- Then a step that has turned nothing that was there. -/
theorem gb_then {a b c : World} {row : Option Nat} (h : a.grownBy b row) (k : Below b.heap.size b c) : a.grownBy c row := gb_trans h (gb_below k row)
theorem gb_alloc {a b : World} {row : Option Nat} (h : a.grownBy b row) (o : Obj) : a.grownBy (b.alloc o) row :=
  gb_then h ((Below.refl _ _).alloc (Nat.le_refl _) o)
theorem gb_drewN {a b : World} {row : Option Nat} (h : a.grownBy b row) (n : Nat) : a.grownBy (b.drewN n) row := ⟨h.os, h.tape, h.output, h.size, h.block⟩
theorem gb_drew {a b : World} {row : Option Nat} (h : a.grownBy b row) : a.grownBy b.drew row := ⟨h.os, h.tape, h.output, h.size, h.block⟩
/-- A store into what is new, or into the row. -/
theorem gb_setCell {a b : World} {row : Option Nat} (h : a.grownBy b row) {p : Addr} (hp : row = some p.block ∨ a.heap.size ≤ p.block) (u : Value) : a.grownBy (b.setCell p u) row :=
  ⟨h.os, h.tape, h.output, by simpa [World.setCell] using h.size, fun i hi hne => (Below.heap_setCell b p u i (by
    rintro rfl
    rcases hp with hp | hp
    · exact hne hp.symm
    · omega)).trans (h.block i hi hne)⟩
theorem gb_setChan {a b : World} {c : Nat} (h : a.grownBy b (some c)) (cap : Nat) (buf : Array Value) (cl : Bool) (s r : Nat) (tm : Bool) : a.grownBy (b.setChan c cap buf cl s r tm) (some c) :=
  ⟨h.os, h.tape, h.output, by simpa [World.setChan] using h.size, fun i hi hne => by
    have : (b.setChan c cap buf cl s r tm).heap[i]? = b.heap[i]? := by
      simp only [World.setChan]
      rw [Array.getElem?_setIfInBounds_ne (fun e => hne (by rw [e]))]
    exact this.trans (h.block i hi hne)⟩
theorem gb_blk {a b : World} {row : Option Nat} {g : Nat} {o : Obj} (h : a.grownBy b row) (hg : a.heap[g]? = some o) (hne : some g ≠ row) : b.heap[g]? = some o :=
  (h.block g (Array.getElem?_eq_some_iff.1 hg).1 hne).trans hg
/-- Where the row is one of the call's own, nothing that was there has turned. -/
theorem gb_to_below {B : Nat} {a b : World} {row : Option Nat} (h : a.grownBy b row) (hB : B ≤ a.heap.size) (hr : ∀ k, row = some k → B ≤ k) : Below B a b :=
  (Below.refl B a).grown h hB hr
theorem gb_none {a b : World} (h : a.grownBy b none) : Below a.heap.size a b := gb_to_below h (Nat.le_refl _) (fun k e => by cases e)
/-- The row was new: it is none. -/
theorem gb_new {a b : World} {k : Nat} (h : a.grownBy b (some k)) (hk : a.heap.size ≤ k) (row : Option Nat) : a.grownBy b row :=
  ⟨h.os, h.tape, h.output, h.size, fun i hi _ => h.block i hi (by intro e; cases e; omega)⟩
theorem gb_row {a b : World} (h : a.grownBy b none) (row : Option Nat) : a.grownBy b row := gb_below (gb_none h) row
/-- Then a step that has turned one block alone, a new one. -/
theorem gb_trans_new {a b c : World} {row : Option Nat} {ob : Nat} (h : a.grownBy b row) (k : b.grownBy c (some ob)) (ho : a.heap.size ≤ ob) : a.grownBy c row :=
  ⟨k.os.trans h.os, k.tape.trans h.tape, k.output.trans h.output, Nat.le_trans h.size k.size, fun i hi hne => (k.block i (Nat.lt_of_lt_of_le hi h.size) (fun e => by cases e; omega)).trans (h.block i hi hne)⟩
theorem blk_setChan_other (w : World) (c c' cap : Nat) (buf : Array Value) (closed : Bool) (s r : Nat) (tm : Bool) (h : c' ≠ c) : (w.setChan c cap buf closed s r tm).heap[c']? = w.heap[c']? := by
  simp only [World.setChan]
  rw [Array.getElem?_setIfInBounds_ne (fun e => h e.symm)]
end Go.Proofs.Ytnjdighpdcabcaa
/- A disk in memory; an act. -/
set_option linter.unusedVariables false
set_option linter.unusedSimpArgs false
namespace Go.Proofs.Ytnjdighpdcabcaa
open Go.RowKit Go.Proofs.YtnjdighpdcabcaaW.PrintWords Go.Proofs.YtnjdighpdcabcaaW.PrintLast Go.Proofs.YtnjdighpdcabcaaW.PrintMore
attribute [local go_sem] max2_int min2_int max_two min_two max_three min_three max_four min_four

theorem do_any (w : World) (S : Nat → Prop) (b : Nat) (fs : Files) (f : Nat) (cs : Array Value) (c : Chg) (hf : FnAt w S (f, cs) c) (hm : MapAt w S b fs) (hSb : S b) (hn : fs.length < maxLen) :
    Calls Try.prog f (#[.map (some b)] ++ cs) w fun e w' => e = .returned (.tuple #[]) ∧ MapAt w' S b (appl fs c) ∧ w.mapTurned w' b := by
  obtain ⟨vs, hown, h2⟩ := id hm
  have hlen := h2.length
  obtain ⟨ha, hb, hf⟩ := hf
  rcases hf with ⟨h0, b1, b2, v, e, k1, k2, k3⟩ | ⟨h0, b1, b2, e, k1, k2⟩ | ⟨h0, b1, e, k1⟩
  · obtain ⟨rfl, rfl⟩ := Prod.mk.inj e
    obtain ⟨A, cc, rfl, hc, _⟩ := k2.slice
    refine (do_write w b b1 b2 vs c.a ha (by omega) A _ cc hown k1.1 k3.1).mono ?_
    rintro e w' ⟨rfl, ho, ht⟩
    refine ⟨rfl, ?_, ht⟩
    unfold appl
    rw [if_pos h0]
    exact hm.write hSb h2 k2 ho ht
  · obtain ⟨rfl, rfl⟩ := Prod.mk.inj e
    refine (do_rename w b b1 b2 vs c.a c.b ha hb (by omega) hown (fun v hv => ?_) k1.1 k2.1 (fun e => k2.2 (e ▸ hSb))).mono ?_
    · rcases All2.look fileRow_name c.a h2 with ⟨h, _⟩ | ⟨d, d', h, _, hr⟩
      · rw [h] at hv; cases hv
      · rw [h] at hv
        obtain rfl := Option.some.inj hv
        obtain ⟨A, cc, e, _⟩ := hr.2.slice
        exact ⟨A, _, cc, e⟩
    rintro e w' ⟨rfl, ho, ht⟩
    refine ⟨rfl, ?_, ht⟩
    unfold appl
    rw [if_neg (by omega), if_pos h0]
    have hT : Turns S w w' := (Turns.refl S w).turned ht (.inl hSb)
    rcases All2.look fileRow_name c.a h2 with ⟨h, h'⟩ | ⟨d, d', h, h', hr⟩
    · rw [h] at ho
      rw [h']
      exact ⟨vs, ho, h2.imp (fun _ _ h => h.step hT (fun _ h => .inl h))⟩
    · rw [h] at ho
      rw [h']
      have hfr : ∀ x f, FileRow w S x f → FileRow w' S x f := fun _ _ h => h.step hT (fun _ h => .inl h)
      exact ⟨_, ho, All2.put fileRow_name (n := c.b) ⟨rfl, hr.2.step hT (fun _ h => .inl h)⟩ (All2.del fileRow_name c.a (h2.imp hfr))⟩
  · exact False.elim e

/-- A disk, told. -/
structure D where
  room : Int
  now : Files
  old : Files
  ch : List Chg
  acts : Int
  fuse : Int
  down : Bool
abbrev tD : TypeId := 53
def DiskCells (w : World) (g : Nat) (d : D) (bn bs : Nat) (vc : Value) : Prop :=
  w.heap[g]? = some (.cells #[.int .i64 d.room, .map (some bn), .map (some bs), vc, .int .i64 d.acts, .int .i64 d.fuse, .bool d.down] tD (0, 0))
/-- What a disk leads to. -/
structure Parts (w : World) (base g : Nat) (S : Nat → Prop) (bn bs : Nat) (vc : Value) (cs : List FnV) (Sc : Nat → Prop) (now old : Files) (ch : List Chg) : Prop where
  now : MapAt w S bn now
  old : MapAt w S bs old
  row : kFn.R 61 w base Sc vc cs
  fns : All2 (FnAt w S) cs ch
  sc : ∀ k, Sc k → S k ∧ k ≠ g ∧ k ≠ bn ∧ k ≠ bs
  sn : S bn
  ss : S bs
  ne : bn ≠ bs ∧ g ≠ bn ∧ g ≠ bs
/-- A disk at block g; S: the blocks that may turn; all from base on. -/
structure DiskAt (w : World) (base g : Nat) (S : Nat → Prop) (d : D) : Prop where
  row : ∃ bn bs vc cs Sc, DiskCells w g d bn bs vc ∧ Parts w base g S bn bs vc cs Sc d.now d.old d.ch
  lt : ∀ k, S k → k < w.heap.size ∧ base ≤ k
  own : S g
section
variable {w w' : World} {base g bn bs : Nat} {S S' Sc : Nat → Prop} {vc : Value} {cs : List FnV} {d : D} {now old : Files} {ch : List Chg}
theorem Parts.step {S2 : Nat → Prop} (h : Parts w base g S bn bs vc cs Sc now old ch) (k : Turns S2 w w') (h2 : ∀ i, S2 i → S i ∧ i ≠ bn ∧ i ≠ bs ∧ ¬ Sc i) : Parts w' base g S bn bs vc cs Sc now old ch :=
  have kS : Turns S w w' := k.mono (fun i hi => .inl (h2 i hi).1)
  ⟨h.now.step k (fun hi => (h2 _ hi).2.1 rfl) (fun i hi => (h2 i hi).1) (fun _ h => .inl h), h.old.step k (fun hi => (h2 _ hi).2.2.1 rfl) (fun i hi => (h2 i hi).1) (fun _ h => .inl h),
    Kd.R_step h.row (fun i hi hl => k.block i hl (fun h' => (h2 i h').2.2.2 hi)), h.fns.imp (fun _ _ h => h.step kS (fun _ h => .inl h)), h.sc, h.sn, h.ss, h.ne⟩
theorem Parts.set (h : Parts w base g S bn bs vc cs Sc now old ch) (hg : S g) (i : Nat) (u : Value) : Parts (w.setCell ⟨g, i, none⟩ u) base g S bn bs vc cs Sc now old ch :=
  h.step (S2 := fun k => k = g) ((Turns.refl (fun k => k = g) w).set (p := ⟨g, i, none⟩) (.inl rfl) u) (fun k e => by
    subst e
    exact ⟨hg, h.ne.2.1, h.ne.2.2, fun hc => (h.sc _ hc).2.1 rfl⟩)
theorem Parts.below (h : Parts w base g S bn bs vc cs Sc now old ch) (k : Below w.heap.size w w') : Parts w' base g S bn bs vc cs Sc now old ch := h.step (S2 := fun _ => False) (Turns.of_below k _) (fun _ h => h.elim)
theorem DiskAt.glt (h : DiskAt w base g S d) : g < w.heap.size := (h.lt g h.own).1
theorem DiskAt.turns {S2 : Nat → Prop} (h : DiskAt w base g S d) (k : Turns S2 w w') (hs : ∀ i, S i → ¬ S2 i) (ht : ∀ i, S2 i → w.heap.size ≤ i ∨ False) : DiskAt w' base g S d := by
  obtain ⟨bn, bs, vc, cs, Sc, h1, h2⟩ := h.row
  have kb : Below w.heap.size w w' := k.toBelow (Nat.le_refl _) (fun i hi => by rcases ht i hi with h | h; exact h; exact h.elim)
  exact ⟨⟨bn, bs, vc, cs, Sc, (kb.block g h.glt).trans h1, h2.below kb⟩, fun i hi => ⟨Nat.lt_of_lt_of_le (h.lt i hi).1 kb.size, (h.lt i hi).2⟩, h.own⟩
theorem DiskAt.below (h : DiskAt w base g S d) (k : Below w.heap.size w w') : DiskAt w' base g S d := h.turns (S2 := fun _ => False) (Turns.of_below k _) (fun _ _ h => h) (fun _ h => h.elim)
/-- What a call at a disk leaves: a disk again, and all else. -/
def DiskStep (w w' : World) (base g : Nat) (S : Nat → Prop) (d' : D) : Prop := ∃ S', DiskAt w' base g S' d' ∧ (∀ k, S' k → S k ∨ w.heap.size ≤ k) ∧ Turns S w w'
theorem DiskStep.refl (h : DiskAt w base g S d) : DiskStep w w base g S d := ⟨S, h, fun _ hk => .inl hk, Turns.refl _ _⟩
end
theorem cells7 {W : World} {g : Nat} {a b c d e f h : Value} {t : TypeId} (k : W.heap[g]? = some (.cells #[a, b, c, d, e, f, h] t (0, 0))) :
    W.cell? ⟨g, 0, none⟩ = some a ∧ W.cell? ⟨g, 1, none⟩ = some b ∧ W.cell? ⟨g, 2, none⟩ = some c ∧ W.cell? ⟨g, 3, none⟩ = some d ∧ W.cell? ⟨g, 4, none⟩ = some e ∧ W.cell? ⟨g, 5, none⟩ = some f ∧ W.cell? ⟨g, 6, none⟩ = some h :=
  ⟨by simpa using blk_cell k 0, by simpa using blk_cell k 1, by simpa using blk_cell k 2, by simpa using blk_cell k 3, by simpa using blk_cell k 4, by simpa using blk_cell k 5, by simpa using blk_cell k 6⟩
def offD (d : D) : Bool := d.down || decide (d.fuse = 0)
def actE (d : D) (code : Int) : Int := if offD d = true then 13 else code
def ranD (d : D) : D := { d with down := false, acts := d.acts + 1, fuse := max (d.fuse - 1) (-1) }
def actD (d : D) (code : Int) (c : Chg) : D := if offD d = true then { d with down := true } else if code = 0 then { ranD d with now := appl d.now c, ch := d.ch ++ [c] } else d
/-- The numbers of a disk are such as they can be. -/
structure Small (d : D) : Prop where
  now : d.now.length ≤ 1000000000
  old : d.old.length ≤ 1000000000
  ch : d.ch.length ≤ 1000000000
  acts : 0 ≤ d.acts ∧ d.acts ≤ 1000000000
  fuse : -1 ≤ d.fuse ∧ d.fuse ≤ 9223372036854775807
  room : 0 ≤ d.room ∧ d.room ≤ 9223372036854775807
  each : (∀ p ∈ d.now, p.2.length ≤ 65536) ∧ (∀ p ∈ d.old, p.2.length ≤ 65536) ∧ ∀ c ∈ d.ch, c.t.length ≤ 65536
end Go.Proofs.Ytnjdighpdcabcaa
