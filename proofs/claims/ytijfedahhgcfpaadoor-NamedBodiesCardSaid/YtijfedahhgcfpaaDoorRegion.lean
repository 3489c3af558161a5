import Derived.Test.YtijfedahhgcfpaaDoorWWords
import Derived.Test.YtijfedahhgcfpaaDoorWLast
set_option linter.unusedVariables false
namespace Go.Proofs.YtijfedahhgcfpaaDoor
open Go.RowKit Go.Proofs.YtijfedahhgcfpaaDoorW.PrintWords Go.Proofs.YtijfedahhgcfpaaDoorW.PrintLast

/-- The operations t are all that is left, and each waits for those ahead of it. -/
def tailB (md : Region.Mode) (ops : Array Oper) : Array Bool → List Nat → Bool
  | l, [] => Region.ready md ops l == []
  | l, i :: t => Region.ready md ops l == [i] && (decide (i < ops.size)) && tailB md ops (l.setIfInBounds i true) t

section
variable {P : Program} {md : Region.Mode} {ops : Array Oper} {Q : Exit → Act → World → Prop} {S : World → Prop} {ds : List Nat}

theorem tail_wp : ∀ (t : List Nat) (l : Array Bool) (a : Act) (w : World) (fuel : Nat), tailB md ops l t = true → (∀ i ∈ t, i ∈ ds) →
    wpOps P ops Q t a w → wpAnyLast P md ops Q S ds (t.length + fuel) l a w
  | [], l, a, w, fuel, hc, hd, h => by
    simp only [List.length_nil, Nat.zero_add]
    exact done_ hc h
  | i :: t, l, a, w, fuel, hc, hd, h => by
    simp only [tailB, Bool.and_eq_true, decide_eq_true_eq] at hc
    obtain ⟨⟨h1, h2⟩, h3⟩ := hc
    have e : (i :: t).length + fuel = (t.length + fuel) + 1 := by simp only [List.length_cons]; omega
    rw [e]
    rw [wpOps_cons] at h
    refine wpAnyLast_ready (rs := [i]) (by simpa using h1) (by simp) (fun j hj => ?_)
    obtain rfl := List.mem_singleton.1 hj
    exact wpOp_mono (fun a' w' hh => ⟨fun hn => absurd (hd j (by simp)) hn, tail_wp t _ a' w' fuel h3 (fun k hk => hd k (by simp [hk])) hh⟩) h

/-- The tail as the walk takes it: the operations from number k on. -/
theorem tail_list (k : Nat) {t : List Nat} {r : List Oper} {l : Array Bool} {a : Act} {w : World} {fuel n : Nat} (he : r = ops.toList.drop k) (ht : t = List.range' k r.length) (hf : n = t.length + fuel)
    (hc : tailB md ops l t = true) (hd : (t.all fun i => ds.contains i) = true) (h : wpList P ops Q r a w) : wpAnyLast P md ops Q S ds n l a w := by
  subst hf
  subst ht
  rw [← wpOps_eq_wpList r k (fun j => by rw [he]; simp)] at h
  exact tail_wp _ l a w fuel hc (fun i hi => by simpa using List.all_eq_true.1 hd i hi) h
end
end Go.Proofs.YtijfedahhgcfpaaDoor
