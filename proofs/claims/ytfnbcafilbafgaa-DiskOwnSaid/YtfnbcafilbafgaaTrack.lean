/-
  append to bytes of one's own: where they lie then.
-/
import Derived.Test.YtfnbcafilbafgaaDisk
import Derived.ArgAppend
namespace Go.Proofs.Ytfnbcafilbafgaa
open Go.RowKit
set_option linter.unusedSimpArgs false
theorem wl_append_track {ops : Array Oper} {rest : List Oper} {o : Oper} {a : Act} {w : World} {Q : Exit → Act → World → Prop} (hgd : o.guard = none) (s x : Operand)
    (ho : o.op = .call { callee := .builtin .append, args := #[s, x], argTypes := #[26, 26] }) (base : Nat) (v : Value) (xs ys : List UInt8) (A : Option Addr) (c : Nat)
    (hs : a.eval s = v) (hown : OwnBy w base v xs) (hx : a.eval x = .slice A ys.length c) (hy : IsBy w A ys) (hA : A = none → c = 0) (hlen : xs.length + ys.length ≤ 140737488355328) (hbase : base ≤ w.heap.size)
    (h : ∀ v' w', OwnBy w' base v' (xs ++ ys) → w.grownBy w' v.ownBlock → (v'.ownBlock = v.ownBlock ∨ ∃ g, v'.ownBlock = some g ∧ w.heap.size ≤ g) → wpList Try.prog ops Q rest (a.put o.dst v') w') : wpList Try.prog ops Q (o :: rest) a w := by
  obtain ⟨i0, hi, hz0, hz1, hz2⟩ := info_byte
  cases A with
  | none =>
    have : ys = [] := by
      cases ys with
      | nil => rfl
      | cons y ys => obtain ⟨b, o, h1, _⟩ := hy 0 (by simp); cases h1
    subst this
    rw [hA rfl] at hx
    refine wpList_append_own_none hgd s x _ ho base 5 i0 1 Try.underlying26 hi v _ _ hs hown hx (h _ _ (by rw [List.append_nil]; exact hown) ⟨rfl, rfl, rfl, Nat.le_refl _, fun _ _ _ => rfl⟩ (Or.inl rfl))
  | some ad =>
    have hcell : ∀ j u, (ys.map bc)[j]? = some u → w.cell? (ad.add j) = some u := by
      intro j u hu
      have hj : j < ys.length := by
        have := (List.getElem?_eq_some_iff.1 hu).1
        simpa using this
      obtain ⟨b, off, h1, h2⟩ := hy j hj
      injection h1 with h1
      subst h1
      rw [Addr.add_lit, h2]
      simp [List.getElem?_eq_getElem hj] at hu
      simp [List.getD, List.getElem?_eq_getElem hj, hu]
    have hone : ∀ u ∈ ys.map bc, u.oneCell' = true := by
      intro u hu
      obtain ⟨n, _, rfl⟩ := List.mem_map.1 hu
      rfl
    refine wpList_plain hgd fun K hK => ?_
    have key : ∃ v' w', (Builtin.append_ #[26, 26] o.type #[v, .slice (some ad) ys.length c]).run Try.prog w = .ok v' w' ∧ OwnBy w' base v' (xs ++ ys) ∧ w.grownBy w' v.ownBlock ∧ (v'.ownBlock = v.ownBlock ∨ ∃ g, v'.ownBlock = some g ∧ w.heap.size ≤ g) := by
      obtain ⟨v', w', hr, h2, h3, _⟩ := run_append_own (P := Try.prog) w base 26 o.type 5 i0 (.int .u8 0) 1 1 Try.underlying26 hi hz0 hz1 hz2 rfl (by decide) v _ _ hown ad ys.length c (ys.map bc) (by simp) hcell hone (by unfold maxLen; omega) (by omega) hbase
      refine ⟨v', w', hr, by unfold OwnBy; rw [List.length_append, List.map_append]; exact h2, h3, ?_⟩
      rcases hown.2 with ⟨hv, hn⟩ | ⟨g, cap, cur, hv, hbg, hg, hnc, hcm, hcs, htk⟩
      · have hnil : OwnBy w w.heap.size v xs := by
          have : xs = [] := List.eq_nil_of_length_eq_zero hn
          subst this
          rw [hv]; exact OwnBy.nil _ _
        obtain ⟨v2, w2, hr2, k2, _, _⟩ := run_append_own (P := Try.prog) w w.heap.size 26 o.type 5 i0 (.int .u8 0) 1 1 Try.underlying26 hi hz0 hz1 hz2 rfl (by decide) v _ _ hnil ad ys.length c (ys.map bc) (by simp) hcell hone (by unfold maxLen; omega) (by omega) (Nat.le_refl _)
        rw [hr] at hr2
        injection hr2 with e1 e2
        subst e1
        cases hb : v'.ownBlock with
        | none => left; rw [hv]; rfl
        | some g => exact Or.inr ⟨g, rfl, (k2.lt g hb).1⟩
      · by_cases hroom : xs.length + ys.length ≤ cap
        · have hr2 := run_append_room (P := Try.prog) w 26 o.type 5 i0 Try.underlying26 hi g xs.length cap cur hg ad ys.length c (ys.map bc) (by rw [hz1]; simp) hcell hone hroom (by rw [hz1, hcs]; simp; omega)
          rw [← hv, hr] at hr2
          injection hr2 with e1 e2
          left
          rw [e1, hv]; rfl
        · have holds : ∀ j u, (xs.map bc)[j]? = some u → w.cell? ((⟨g, 0, none⟩ : Addr).add j) = some u := fun j u hu => hown.cells (by rw [hv]; rfl) j u hu
          obtain ⟨v2, w2, hr2, k2, _⟩ := run_append_arg_grows (P := Try.prog) w 26 o.type 5 i0 (.int .u8 0) 1 1 Try.underlying26 hi hz0 hz1 hz2 rfl (by decide) ⟨g, 0, none⟩ xs.length cap (xs.map bc) (by simp) holds ad ys.length c (ys.map bc) (by simp) hcell (by omega) (by unfold maxLen; omega) (by omega)
          rw [← hv, hr] at hr2
          injection hr2 with e1 e2
          subst e1
          right
          rcases k2.2 with ⟨hv2, hn2⟩ | ⟨g2, cap2, cur2, hv2, hbg2, _⟩
          · omega
          · exact ⟨g2, by rw [hv2]; rfl, hbg2⟩
    obtain ⟨v', w', hr, k1, k2, k3⟩ := key
    unfold Oper.wp execOp
    simp only [ho, resolve, invoke, builtin, Sem.run_bind, Sem.run_pure, Result.andThen_ok, List.map_toArray, List.map_cons, List.map_nil, hs, hx, hr]
    exact hK _ _ (h v' w' k1 k2 k3)
theorem OwnBy.block_ne {w : World} {p base : Nat} {l xs : List UInt8} {s f : Int} {v : Value} (ho : OwnBy w base v xs) (h : DK w p s l f) : v.ownBlock ≠ some p := by
  intro hv
  rcases ho.2 with ⟨hv2, _⟩ | ⟨g, cap, cur, hv2, hbg, hg, _⟩
  · rw [hv2] at hv; cases hv
  · rw [hv2] at hv
    injection hv with hv
    subst hv
    obtain ⟨A, c, k1, _⟩ := h
    have k2 := rowAt_iff.1 k1
    rw [hg] at k2
    injection k2 with k2
    injection k2 with _ k3
    exact absurd k3 (by decide)
/-- Where a disk's bytes lie apart from v's. -/
def Apart (v : Value) (l : List UInt8) (A : Option Addr) : Prop := A = none ∨ (l ≠ [] ∧ ∀ x, A = some x → v.ownBlock ≠ some x.block)
theorem DKX.grown {w w' : World} {p base : Nat} {l xs : List UInt8} {s f : Int} {v v' : Value} (h : DKX (Apart v l) w p s l f) (ho : OwnBy w base v xs) (hg : w.grownBy w' v.ownBlock) (hv : v'.ownBlock = v.ownBlock ∨ ∃ g, v'.ownBlock = some g ∧ w.heap.size ≤ g) : DKX (Apart v' l) w' p s l f := by
  have hne := ho.block_ne h.dk
  obtain ⟨A, c, h1, h2, h3, h4, h5⟩ := h
  have hrow : rowAt w' p = rowAt w p := rowAt_of_heap (hg.block p (rowAt_lt h1) (fun e => hne e.symm))
  rcases h5 with rfl | ⟨hn, hA⟩
  · exact ⟨none, c, hrow.trans h1, fun i hi => (by obtain ⟨b, o, g1, _⟩ := h2 i hi; cases g1), h3, h4, Or.inl rfl⟩
  · refine ⟨A, c, hrow.trans h1, fun i hi => ?_, h3, h4, Or.inr ⟨hn, fun x hx => ?_⟩⟩
    · obtain ⟨b, o, g1, g2⟩ := h2 i hi
      exact ⟨b, o, g1, (World.cell?_of_block (a := ⟨b, o + i, none⟩) (hg.block b (World.block_lt_of_cell? _ _ g2) (fun e => hA _ g1 e.symm))).trans g2⟩
    · obtain ⟨b, o, g1, g2⟩ := h2 0 (by cases l with | nil => exact absurd rfl hn | cons _ _ => simp)
      rw [hx] at g1
      injection g1 with g1
      subst g1
      have hlt := World.block_lt_of_cell? _ _ g2
      rcases hv with hv | ⟨g, hv, hg2⟩
      · rw [hv]; exact hA _ hx
      · rw [hv]
        intro e
        injection e with e
        have : b < w.heap.size := hlt
        have : g = b := e
        omega
end Go.Proofs.Ytfnbcafilbafgaa
