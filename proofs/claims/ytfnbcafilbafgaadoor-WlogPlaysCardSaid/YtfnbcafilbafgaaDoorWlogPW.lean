/-
  Layer 12 (wlog): where a play stands.
-/
import Derived.Test.YtfnbcafilbafgaaDoorWlogComp
namespace Go.Proofs.YtfnbcafilbafgaaDoor
open Go.RowKit
set_option linter.unusedSimpArgs false
set_option linter.unusedVariables false
/-- Where a play stands: the log, and the reference's. -/
def PW (base gr p : Nat) (s : Int) (w : World) (q : Nat) (rs : List (List UInt8)) : Prop :=
  ∃ (K : Nat → Prop) (A : Option Addr) (c : Nat) (V : Nat → Option Addr × Nat × List UInt8), LGX (fun b => ¬ K b) w q p s (flatP rs) ((flatP rs).length : Nat) rs ∧ (∀ b, b < base → K b) ∧ (∀ b, K b → b < w.heap.size) ∧ K gr ∧
    rowAt w gr = some (#[.int .i64 s, .slice A rs.length c], 51) ∧ TxK K w A V rs ∧ rs.length ≤ c ∧ (A = none → c = 0)
theorem PW.below {base gr p : Nat} {s : Int} {w w' : World} {q : Nat} {rs : List (List UInt8)} (h : PW base gr p s w q rs) (hb : Below w.heap.size w w') : PW base gr p s w' q rs := by
  obtain ⟨K, A, c, V, h1, h2, h3, h4, h5, h6, h7⟩ := h
  exact ⟨K, A, c, V, h1.below hb, h2, fun b hk => Nat.lt_of_lt_of_le (h3 b hk) hb.size, h4, rowKeep hb h5, h6.below hb, h7⟩
theorem LG.x0 {base : Nat} {w : World} {q p : Nat} {s f : Int} (h : LG base w q p s [] f []) : LGX (fun k => base ≤ k ∧ k < w.heap.size) w q p s [] f [] := by
  have hp := h.dk.lt
  obtain ⟨v, h1, h2, h3, h4, h5⟩ := h
  obtain ⟨V, g1, g2⟩ := h2
  refine ⟨v, h1, ⟨V, ⟨⟨g1.1, g1.2.imp id fun ⟨g, cap, cur, a1, a2, a3⟩ => ⟨g, cap, cur, a1, Nat.zero_le _, a3⟩⟩, g2⟩, fun i hi => absurd hi (Nat.not_lt_zero _), fun k hk => World.ownsRow.lt g1 k hk⟩, h3.mono (fun A _ _ hl => absurd rfl hl), ⟨h4, rowAt_lt h1⟩, ⟨h5, hp⟩⟩
theorem PW.first {base p : Nat} {s : Int} {w : World} {q : Nat} (h : LG base w q p s (flatP []) ((flatP []).length : Nat) []) (hb : base ≤ w.heap.size) : PW base w.heap.size p s (w.alloc (.cells #[.int .i64 s, .slice none 0 0] 51)) q [] := by
  have hal : Below w.heap.size w (w.alloc (.cells #[.int .i64 s, .slice none 0 0] 51)) := (Below.refl _ _).alloc (Nat.le_refl _) _
  have hr : rowAt (w.alloc (.cells #[.int .i64 s, .slice none 0 0] 51)) w.heap.size = some (#[.int .i64 s, .slice none 0 0], 51) := rowAt_alloc_at _ _ _ _ rfl
  have hlt := rowAt_lt hr
  refine ⟨fun b => b < base ∨ b = w.heap.size, none, 0, fun _ => (none, 0, []), ((LG.x0 h).mono (fun k _ hk => by omega)).below hal, fun b hb => Or.inl hb, fun b hk => by omega, Or.inr rfl, hr, ⟨⟨⟨fun i hi => absurd hi (Nat.not_lt_zero _), fun i hi => absurd hi (Nat.not_lt_zero _), fun i hi => absurd hi (Nat.not_lt_zero _), fun i hi => absurd hi (Nat.not_lt_zero _)⟩, fun i hi => absurd hi (Nat.not_lt_zero _)⟩, fun h => absurd rfl h, fun i hi => absurd hi (Nat.not_lt_zero _)⟩, Nat.le_refl _, fun _ => rfl⟩
theorem noBy2 {w : World} {g : Nat} {a : Int} {A : Option Addr} {n c : Nat} {T : TypeId} (h : rowAt w g = some (#[.int .i64 a, .slice A n c], T)) : NoBy w g := by
  intro j y
  rw [cell_of_rowAt h]
  rcases j with _ | _ | j <;> simp [bc]
/-- The reference's variable is written. -/
theorem PW.set {base gr p : Nat} {s : Int} {w : World} {q : Nat} {rs : List (List UInt8)} {K : Nat → Prop} {A A0 : Option Addr} {c n0 c0 : Nat} {V : Nat → Option Addr × Nat × List UInt8} (h1 : LGX (fun b => ¬ K b) w q p s (flatP rs) ((flatP rs).length : Nat) rs) (h2 : ∀ b, b < base → K b) (h3 : ∀ b, K b → b < w.heap.size) (h4 : K gr)
    (h5 : rowAt w gr = some (#[.int .i64 s, .slice A0 n0 c0], 51)) (h6 : TxK K w A V rs) (h7 : rs.length ≤ c) (h8 : A = none → c = 0) : PW base gr p s (w.setRow gr #[.int .i64 s, .slice A rs.length c]) q rs := by
  have hbt : Bt gr w (w.setRow gr #[.int .i64 s, .slice A rs.length c]) := Bt.setRow _ _ _
  exact ⟨K, A, c, V, h1.away hbt (fun h => h h4), h2, fun b hb => by rw [setRow_size]; exact h3 b hb, h4, rowAt_setRow_same _ h5, h6.off h5 (by decide) (noBy2 h5) hbt, h7, h8⟩
/-- The reference's log, in blocks of K. -/
def RW (K : Nat → Prop) (gr : Nat) (s : Int) (w : World) (rs : List (List UInt8)) : Prop :=
  ∃ (A : Option Addr) (c : Nat) (V : Nat → Option Addr × Nat × List UInt8), K gr ∧ rowAt w gr = some (#[.int .i64 s, .slice A rs.length c], 51) ∧ TxK K w A V rs ∧ rs.length ≤ c ∧ (A = none → c = 0)
theorem RW.below {K : Nat → Prop} {gr : Nat} {s : Int} {w w' : World} {rs : List (List UInt8)} (h : RW K gr s w rs) (hb : Below w.heap.size w w') : RW K gr s w' rs := by
  obtain ⟨A, c, V, h1, h2, h3, h4⟩ := h
  exact ⟨A, c, V, h1, rowKeep hb h2, h3.below hb, h4⟩
theorem RW.keep {K : Nat → Prop} {gr : Nat} {s : Int} {w w' : World} {rs : List (List UInt8)} (h : RW K gr s w rs) (hb : ∀ k, k < w.heap.size → K k → w'.heap[k]? = w.heap[k]?) : RW K gr s w' rs := by
  obtain ⟨A, c, V, h1, h2, h3, h4⟩ := h
  exact ⟨A, c, V, h1, (rowAt_of_heap (hb gr (rowAt_lt h2) h1)).trans h2, h3.keep hb, h4⟩
theorem RW.mono {K J : Nat → Prop} {gr : Nat} {s : Int} {w : World} {rs : List (List UInt8)} (h : RW K gr s w rs) (hKJ : ∀ k, k < w.heap.size → K k → J k) : RW J gr s w rs := by
  obtain ⟨A, c, V, h1, h2, h3, h4⟩ := h
  exact ⟨A, c, V, hKJ _ (rowAt_lt h2) h1, h2, h3.mono hKJ, h4⟩
theorem RW.set {K : Nat → Prop} {gr : Nat} {s : Int} {w : World} {rs : List (List UInt8)} {A A0 : Option Addr} {c n0 c0 : Nat} {V : Nat → Option Addr × Nat × List UInt8} (hk : K gr) (hr : rowAt w gr = some (#[.int .i64 s, .slice A0 n0 c0], 51)) (hT : TxK K w A V rs) (hc : rs.length ≤ c) (hA : A = none → c = 0) : RW K gr s (w.setRow gr #[.int .i64 s, .slice A rs.length c]) rs :=
  ⟨A, c, V, hk, rowAt_setRow_same _ hr, hT.off hr (by decide) (noBy2 hr) (Bt.setRow _ _ _), hc, hA⟩
theorem PW.of {base gr p : Nat} {s : Int} {w : World} {q : Nat} {rs : List (List UInt8)} {K : Nat → Prop} (h1 : LGX (fun b => ¬ K b) w q p s (flatP rs) ((flatP rs).length : Nat) rs) (h2 : ∀ b, b < base → K b) (h3 : ∀ b, K b → b < w.heap.size) (h4 : RW K gr s w rs) : PW base gr p s w q rs := by
  obtain ⟨A, c, V, g1, g2, g3, g4, g5⟩ := h4
  exact ⟨K, A, c, V, h1, h2, h3, g1, g2, g3, g4, g5⟩
theorem OwnBy.keep {w w' : World} {base : Nat} {v : Value} {xs : List UInt8} (h : OwnBy w base v xs) (hb : ∀ k, k < w.heap.size → v.ownBlock = some k → w'.heap[k]? = w.heap[k]?) : OwnBy w' base v xs := by
  refine ⟨h.1, h.2.imp id ?_⟩
  rintro ⟨g, cap, cur, h1, h2, h3, h4⟩
  exact ⟨g, cap, cur, h1, h2, (hb g (Array.getElem?_eq_some_iff.1 h3).1 (by rw [h1]; rfl)).trans h3, h4⟩
theorem own_lt {w : World} {base : Nat} {v : Value} {xs : List UInt8} (h : OwnBy w base v xs) : ∀ k, v.ownBlock = some k → base ≤ k ∧ k < w.heap.size := fun k hk => World.ownsRow.lt h k hk
theorem Fr.keep {K : Nat → Prop} {w w' : World} (h : Fr (fun b => ¬ K b) w w') : ∀ k, k < w.heap.size → K k → w'.heap[k]? = w.heap[k]? := fun k hk hK => h.block k hk (fun hn => hn hK)
theorem last_room {rs : List (List UInt8)} (h : rs ≠ []) : (flatP [lastT rs]).length ≤ (flatP rs).length := by
  have hpos := List.length_pos_iff.2 h
  have e1 : rs.take (rs.length - 1 + 1) = rs := List.take_of_length_le (by omega)
  have e2 := flatP_take rs (k := rs.length - 1) (by omega)
  rw [e1] at e2
  conv => rhs; rw [e2, List.length_append]
  have : flatP [lastT rs] = putL (rs.getD (rs.length - 1) []) := by simp [flatP, lastT]
  rw [this]
  exact Nat.le_add_left _ _
end Go.Proofs.YtfnbcafilbafgaaDoor
