/-
  A region that draws its order, operation by operation, with late operations that wait for all reads: what holds behind each operation is asked of those that are not late.
-/
import Derived.Test.YtinhaipnmmgplaaGreatZGA
namespace Go.Proofs.YtinhaipnmmgplaaGreat
set_option maxRecDepth 20000
open Go.RowKit
set_option linter.unusedSimpArgs false
section
variable {P : Program} {md : Region.Mode} {ops : Array Oper} {Q : Exit → Act → World → Prop} {S : World → Prop} {lt rd : List Nat}
def wpAnyR (P : Program) (md : Region.Mode) (ops : Array Oper) (Q : Exit → Act → World → Prop) (S : World → Prop) (lt : List Nat) : Nat → Array Bool → Act → World → Prop
  | 0, listed, a, w => Region.ready md ops listed = [] ∧ Q .normal a w
  | fuel + 1, listed, a, w => (Region.ready md ops listed = [] → Q .normal a w) ∧ ∀ i ∈ Region.ready md ops listed, wpOp P ops Q i (fun a' w' => (lt.contains i = false → S w') ∧ wpAnyR P md ops Q S lt fuel (listed.setIfInBounds i true) a' w') a w
theorem wpAny_of_R : ∀ (fuel : Nat) (listed : Array Bool) (a : Act) (w : World), wpAnyR P md ops Q S lt fuel listed a w → wpAny P md ops Q fuel listed a w
  | 0, _, _, _, h => h
  | fuel + 1, _, _, _, h => ⟨h.1, fun i hi => wpOp_mono (fun a' w' h' => wpAny_of_R fuel _ a' w' h'.2) (h.2 i hi)⟩
/-- Each late operation waits for each read. -/
def lateB (md : Region.Mode) (ops : Array Oper) (lt rd : List Nat) : Bool := lt.all fun t => rd.all fun i => match ops[t]? with
  | some o => o.after.any fun e => Region.binds md e && e.on == i
  | none => true
theorem late_after (hT : lateB md ops lt rd = true) {i j : Nat} {listed : Array Bool} (him : rd.contains i = true) (hun : listed.getD i true = false) (hj : j ∈ Region.ready md ops listed) : lt.contains j = false := by
  obtain ⟨_, oj, hoj, hall⟩ := mem_ready.1 hj
  cases hc : lt.contains j
  · rfl
  · exfalso
    have h1 := List.all_eq_true.1 hT j (by simpa using hc)
    have h2 := List.all_eq_true.1 h1 i (by simpa using him)
    rw [hoj] at h2
    obtain ⟨e, he, hb⟩ := Array.any_eq_true'.1 h2
    rw [Bool.and_eq_true, beq_iff_eq] at hb
    have h3 := hall e he hb.1
    rw [hb.2, getD_both hun] at h3
    cases h3
theorem wpAnyR_first {i : Nat} {oi : Oper} {v : Value} (hi : ops[i]? = some oi) (hsel : ∀ (j : Nat) (o : Oper) cs b, ops[j]? = some o → o.op ≠ .select cs b)
    (hQ : ∀ c a w, Q (.panic c) (a.put oi.dst v) w → Q (.panic c) a w) (hT : lateB md ops lt rd = true) (him : rd.contains i = true) :
    ∀ (fuel : Nat) (listed : Array Bool) (a : Act) (w : World),
      (∀ j oj, ops[j]? = some oj → j ≠ i → listed.getD j true = false → (∀ e ∈ oj.after, Region.binds md e = true → e.on ≠ i) → oi.apart ops oj = true) →
      i ∈ Region.ready md ops listed → YieldsIf P ops S oi v a → S w →
      wpAnyR P md ops Q S lt fuel (listed.setIfInBounds i true) (a.put oi.dst v) w → wpAnyR P md ops Q S lt (fuel + 1) listed a w := by
  intro fuel
  induction fuel with
  | zero =>
    intro listed a w _ hr hy hS H
    refine ⟨fun h => (by rw [h] at hr; cases hr), fun j hj => ?_⟩
    by_cases hji : j = i
    · subst hji; exact hy.wpOp hi hS ⟨fun _ => hS, H⟩
    · have h0 := ready_mono hj hji
      rw [H.1] at h0
      cases h0
  | succ fuel ih =>
    intro listed a w hfree hr hy hS H
    refine ⟨fun h => (by rw [h] at hr; cases hr), fun j hj => ?_⟩
    by_cases hji : j = i
    · subst hji; exact hy.wpOp hi hS ⟨fun _ => hS, H⟩
    · have h1 := H.2 j (ready_mono hj hji)
      have hun := (mem_ready.1 hr).1
      have hjm := late_after hT him hun hj
      obtain ⟨hjun, oj, hoj, hall⟩ := mem_ready.1 hj
      have hnot : ∀ e ∈ oj.after, Region.binds md e = true → e.on ≠ i := fun e he hb heq => by
        have h3 := hall e he hb
        rw [heq, getD_both hun] at h3
        cases h3
      have h2 := wpOp_putIf hoj (hfree j oj hoj hji hjun hnot) (fun cs b => hsel i oi cs b hi) (fun cs b => hsel j oj cs b hoj) hQ hy h1
      have hfree' : ∀ k ok, ops[k]? = some ok → k ≠ i → (listed.setIfInBounds j true).getD k true = false →
          (∀ e ∈ ok.after, Region.binds md e = true → e.on ≠ i) → oi.apart ops ok = true := fun k ok hk hki hku hno => by
        refine hfree k ok hk hki ?_ hno
        by_cases hjk : j = k
        · subst hjk; exact hjun
        · rwa [getD_set_ne true hjk] at hku
      refine wpOp_mono (fun a' w' h3 => ⟨h3.2.1, ih (listed.setIfInBounds j true) a' w' hfree' (ready_mono hr (Ne.symm hji)) h3.1 (h3.2.1 hjm) ?_⟩) h2
      rw [Array.setIfInBounds_comm _ _ hji]
      exact h3.2.2
variable {fuel : Nat} {listed : Array Bool} {a : Act} {w : World}
/-- A read is taken first. -/
theorem late_take {i : Nat} {oi : Oper} (hi : ops[i]? = some oi) (hT : lateB md ops lt rd = true) (him : rd.contains i = true) (hs : Region.noSelect ops = true) (hf : Region.free md ops listed i = true) (hr : (Region.ready md ops listed).contains i = true)
    (hQ : ∀ c v a w, Q (.panic c) (a.put oi.dst v) w → Q (.panic c) a w) (hS : S w) (hw : Region.wanted oi (yielded ops a.tmps) = true)
    (h : ∃ v, (∀ w, S w → (execOp a.eval oi).run P w = .ok (.value v) w) ∧ wpAnyR P md ops Q S lt fuel (listed.setIfInBounds i true) (a.put oi.dst v) w) : wpAnyR P md ops Q S lt (fuel + 1) listed a w := by
  obtain ⟨v, h1, h2⟩ := h
  exact wpAnyR_first hi (Region.noSelect_spec hs) (fun c a w => hQ c v a w) hT him fuel listed a w (Region.free_spec hi hf) (by simpa using hr) (Or.inl ⟨hw, h1⟩) hS h2
/-- What is not wanted is taken first. -/
theorem late_skip {i : Nat} {oi : Oper} (hi : ops[i]? = some oi) (hT : lateB md ops lt rd = true) (him : rd.contains i = true) (hs : Region.noSelect ops = true) (hf : Region.free md ops listed i = true) (hr : (Region.ready md ops listed).contains i = true)
    (hQ : ∀ c v a w, Q (.panic c) (a.put oi.dst v) w → Q (.panic c) a w) (hS : S w) (hw : Region.wanted oi (yielded ops a.tmps) = false)
    (h : wpAnyR P md ops Q S lt fuel (listed.setIfInBounds i true) (a.put oi.dst undef) w) : wpAnyR P md ops Q S lt (fuel + 1) listed a w :=
  wpAnyR_first hi (Region.noSelect_spec hs) (fun c a w => hQ c undef a w) hT him fuel listed a w (Region.free_spec hi hf) (by simpa using hr) (Or.inr ⟨hw, rfl⟩) hS h
def AllReadyR (P : Program) (md : Region.Mode) (ops : Array Oper) (Q : Exit → Act → World → Prop) (S : World → Prop) (lt : List Nat) (fuel : Nat) (listed : Array Bool) (a : Act) (w : World) (rs : List Nat) : Prop :=
  ∀ i ∈ rs, wpOp P ops Q i (fun a' w' => (lt.contains i = false → S w') ∧ wpAnyR P md ops Q S lt fuel (listed.setIfInBounds i true) a' w') a w
theorem AllReadyR.nil : AllReadyR P md ops Q S lt fuel listed a w [] := fun _ h => by cases h
/-- Ahead of the tail. -/
theorem AllReadyR.cons {i : Nat} {o : Oper} {rs : List Nat} (ho : ops[i]? = some o)
    (h : ∀ K' : Act → World → Prop, Shut (∀ a w, S w → (S w → wpAnyR P md ops Q S lt fuel (listed.setIfInBounds i true) a w) → K' a w) → if Region.wanted o (yielded ops a.tmps) = true then Oper.wp P o a w K' Q else K' (a.put o.dst undef) w)
    (hs : AllReadyR P md ops Q S lt fuel listed a w rs) : AllReadyR P md ops Q S lt fuel listed a w (i :: rs) := fun j hj => by
  rcases List.mem_cons.1 hj with rfl | hj
  · exact wpOp_step ho (fun K' hK => h K' (fun a w hS hW => hK a w ⟨fun _ => hS, hW hS⟩))
  · exact hs j hj
/-- In the tail. -/
theorem AllReadyR.last {i : Nat} {o : Oper} {rs : List Nat} (ho : ops[i]? = some o) (him : lt.contains i = true)
    (h : ∀ K' : Act → World → Prop, Shut (∀ a w, wpAnyR P md ops Q S lt fuel (listed.setIfInBounds i true) a w → K' a w) → if Region.wanted o (yielded ops a.tmps) = true then Oper.wp P o a w K' Q else K' (a.put o.dst undef) w)
    (hs : AllReadyR P md ops Q S lt fuel listed a w rs) : AllReadyR P md ops Q S lt fuel listed a w (i :: rs) := fun j hj => by
  rcases List.mem_cons.1 hj with rfl | hj
  · exact wpOp_step ho (fun K' hK => h K' (fun a w hW => hK a w ⟨fun h => absurd (him.symm.trans h) (by decide), hW⟩))
  · exact hs j hj
theorem wpAnyR_ready {rs : List Nat} (hr : Region.ready md ops listed = rs) (hne : rs ≠ []) (h : AllReadyR P md ops Q S lt fuel listed a w rs) : wpAnyR P md ops Q S lt (fuel + 1) listed a w :=
  ⟨fun h0 => absurd (hr ▸ h0) hne, hr ▸ h⟩
theorem wpAnyR_done (hr : Region.ready md ops listed = []) (h : Q .normal a w) : ∀ fuel, wpAnyR P md ops Q S lt fuel listed a w
  | 0 => ⟨hr, h⟩
  | _ + 1 => ⟨fun _ => h, by rw [hr]; simp⟩
/-- The beginning. -/
theorem wp_region_late_drew {id : Nat} (hm : P.follows .mixedOrders = true) (hS : S w.drew)
    (h : S w.drew → wpAnyR P .any ops Q S lt ops.size (Array.replicate ops.size false) a w.drew) : (Code.region id ops true).wp P Q a w :=
  wp_region_any hm (wpAny_of_R _ _ _ _ (h hS))
end
end Go.Proofs.YtinhaipnmmgplaaGreat
