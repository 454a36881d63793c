/-
  A region that draws its order, operation by operation: what reads is taken first, the rest whichever comes up.
-/
import Derived.Deep.RegionHeld
import Derived.Test.YtpjichkigccfnaaReg
namespace Go.Proofs.Ytpjichkigccfnaa
set_option maxRecDepth 20000
open Go.RowKit
set_option linter.unusedSimpArgs false
section
variable {P : Program} {md : Region.Mode} {ops : Array Oper} {Q : Exit → Act → World → Prop} {S : World → Prop} {fuel : Nat} {listed : Array Bool} {a : Act} {w : World}
/-- A read is taken first. -/
theorem held_take {i : Nat} {oi : Oper} (hi : ops[i]? = some oi) (hs : Region.noSelect ops = true) (hf : Region.free md ops listed i = true) (hr : (Region.ready md ops listed).contains i = true)
    (hQ : ∀ c v a w, Q (.panic c) (a.put oi.dst v) w → Q (.panic c) a w) (hS : S w) (hw : Region.wanted oi (yielded ops a.tmps) = true)
    (h : ∃ v, (∀ w, S w → (execOp a.eval oi).run P w = .ok (.value v) w) ∧ wpAnyH P md ops Q S fuel (listed.setIfInBounds i true) (a.put oi.dst v) w) : wpAnyH P md ops Q S (fuel + 1) listed a w := by
  obtain ⟨v, h1, h2⟩ := h
  exact wpAnyH_take hi hs hf hr (fun c a w => hQ c v a w) (Or.inl ⟨hw, h1⟩) hS h2
/-- What is not wanted is taken first. -/
theorem held_skip {i : Nat} {oi : Oper} (hi : ops[i]? = some oi) (hs : Region.noSelect ops = true) (hf : Region.free md ops listed i = true) (hr : (Region.ready md ops listed).contains i = true)
    (hQ : ∀ c v a w, Q (.panic c) (a.put oi.dst v) w → Q (.panic c) a w) (hS : S w) (hw : Region.wanted oi (yielded ops a.tmps) = false)
    (h : wpAnyH P md ops Q S fuel (listed.setIfInBounds i true) (a.put oi.dst undef) w) : wpAnyH P md ops Q S (fuel + 1) listed a w :=
  wpAnyH_take hi hs hf hr (fun c a w => hQ c undef a w) (Or.inr ⟨hw, rfl⟩) hS h
end
/-- What holds behind each operation may be told more of on the way. -/
theorem held_more {P : Program} {md : Region.Mode} {ops : Array Oper} {Q : Exit → Act → World → Prop} {S S2 : World → Prop} (hS : ∀ w, S2 w → S w) : ∀ {fuel : Nat} {listed : Array Bool} {a : Act} {w : World}, wpAnyH P md ops Q S2 fuel listed a w → wpAnyH P md ops Q S fuel listed a w
  | 0, _, _, _, h => h
  | _ + 1, _, _, _, h => ⟨h.1, fun i hi => wpOp_mono (fun _ _ h' => ⟨hS _ h'.1, held_more hS h'.2⟩) (h.2 i hi)⟩
theorem act_put (l : List Value) (ds : List Deferred) (d : Tmp) (v : Value) : ({ tmps := l.toArray, defers := ds } : Act).put (some d) v = { tmps := (l.set d v).toArray, defers := ds } := by simp [Act.put]
theorem act_put_none (a : Act) (v : Value) : a.put none v = a := rfl
end Go.Proofs.Ytpjichkigccfnaa
