/-
  Texts of the call's own: a slice of slices of bytes that grows.
-/
import Derived.Test.YtfnbcafilbafgaaDoorDisk
import Derived.Test.YtfnbcafilbafgaaDoorFrameB
import Derived.ArgAppend
namespace Go.Proofs.YtfnbcafilbafgaaDoor
open Go.RowKit
set_option linter.unusedSimpArgs false
set_option linter.unusedVariables false
/-- The cells of texts. -/
def txCells (V : Nat → Option Addr × Nat) (ps : List (List UInt8)) : List Value := (List.range ps.length).map fun i => .slice (V i).1 (ps.getD i []).length (V i).2
/-- v holds just these texts, in memory from base on. -/
def OwnTx (w : World) (base : Nat) (v : Value) (ps : List (List UInt8)) : Prop :=
  ∃ V : Nat → Option Addr × Nat, w.ownsRow base 24 1 v ps.length (txCells V ps) ∧
    ∀ i, i < ps.length → IsBy w (V i).1 (ps.getD i []) ∧ (ps.getD i []).length ≤ (V i).2 ∧ ((V i).1 = none → (V i).2 = 0) ∧ (ps.getD i [] ≠ [] → ∀ x, (V i).1 = some x → v.ownBlock ≠ some x.block)
theorem OwnTx.nil (w : World) (base : Nat) : OwnTx w base (.slice none 0 0) [] := ⟨fun _ => (none, 0), World.ownsRow_nil w base _ _, fun i hi => absurd hi (by simp)⟩
theorem ownsRow_below {w w' : World} {base : Nat} {e : TypeId} {v : Value} {n : Nat} {xs : List Value} (h : w.ownsRow base e 1 v n xs) (hb : Below w.heap.size w w') : w'.ownsRow base e 1 v n xs := by
  refine ⟨h.1, ?_⟩
  rcases h.2 with hn | ⟨g, cap, cur, hv, hbg, hg, rest⟩
  · exact .inl hn
  · exact .inr ⟨g, cap, cur, hv, hbg, (hb.block g (Array.getElem?_eq_some_iff.1 hg).1).trans hg, rest⟩
theorem OwnTx.below {w w' : World} {base : Nat} {v : Value} {ps : List (List UInt8)} (h : OwnTx w base v ps) (hb : Below w.heap.size w w') : OwnTx w' base v ps := by
  obtain ⟨V, h1, h2⟩ := h
  exact ⟨V, ownsRow_below h1 hb, fun i hi => ⟨(h2 i hi).1.below hb, (h2 i hi).2⟩⟩
theorem OwnTx.mono {w : World} {base base' : Nat} {v : Value} {ps : List (List UInt8)} (h : OwnTx w base v ps) (hb : base' ≤ base) : OwnTx w base' v ps := by
  obtain ⟨V, h1, h2⟩ := h
  refine ⟨V, ⟨h1.1, ?_⟩, h2⟩
  rcases h1.2 with hn | ⟨g, cap, cur, hv, hbg, rest⟩
  · exact .inl hn
  · exact .inr ⟨g, cap, cur, hv, Nat.le_trans hb hbg, rest⟩
/-- As texts that can be read. -/
theorem OwnTx.texts {w : World} {base : Nat} {v : Value} {ps : List (List UInt8)} (h : OwnTx w base v ps) :
    ∃ A c V, v = .slice A ps.length c ∧ Texts w A ps.length V ∧ (∀ i, (V i).2.2 = ps.getD i []) ∧ ps.length ≤ c ∧ (A = none → c = 0) := by
  obtain ⟨V, h1, h2⟩ := h
  rcases h1.2 with ⟨hv, hn⟩ | ⟨g, cap, cur, hv, hbg, hg, hnc, hcm, hcs, htk⟩
  · refine ⟨none, 0, fun i => ((V i).1, (V i).2, ps.getD i []), by rw [hv, hn], ⟨fun i hi => by omega, fun i hi => by omega, fun i hi => by omega, fun i hi => by omega⟩, fun _ => rfl, by omega, fun _ => rfl⟩
  · refine ⟨some ⟨g, 0, none⟩, cap, fun i => ((V i).1, (V i).2, ps.getD i []), hv, ⟨fun i hi => ⟨g, 0, rfl, ?_⟩, fun i hi => (h2 i hi).1, fun i hi => (h2 i hi).2.1, fun i hi => (h2 i hi).2.2.1⟩, fun _ => rfl, hnc, fun h => by cases h⟩
    have := h1.cells (g := g) (by rw [hv]; rfl) i (.slice (V i).1 (ps.getD i []).length (V i).2) (by simp [txCells, hi])
    rw [Addr.add_lit] at this
    exact this
theorem info_text : ∃ i, Tryd.prog.info? 24 = some i ∧ i.zero = some (.slice none 0 0) ∧ i.size = 1 ∧ i.bytes = 24 :=
  info_parts (show (Tryd.prog.info? 24).map (fun i => (i.zero, i.size, i.bytes)) = some (some (.slice none 0 0), 1, 24) by kernel_rfl)
theorem txCells_snoc (V : Nat → Option Addr × Nat) (ps : List (List UInt8)) (p : List UInt8) (A : Option Addr) (c : Nat) :
    txCells (fun i => if i < ps.length then V i else (A, c)) (ps ++ [p]) = txCells V ps ++ [.slice A p.length c] := by
  unfold txCells
  rw [List.length_append, List.length_singleton, List.range_succ, List.map_append]
  congr 1
  · refine List.map_congr_left fun i hi => ?_
    have : i < ps.length := List.mem_range.1 hi
    simp [this, List.getElem?_append_left this]
  · simp
/-- append of one text, just laid: where the slice lies then. -/
theorem run_append_textV {w : World} (ty : TypeId) (base : Nat) (v : Value) (ps : List (List UInt8)) (p : List UInt8) (A : Option Addr) (c : Nat)
    (V : Nat → Option Addr × Nat) (h1 : w.ownsRow base 24 1 v ps.length (txCells V ps)) (h2 : ∀ i, i < ps.length → IsBy w (V i).1 (ps.getD i []) ∧ (ps.getD i []).length ≤ (V i).2 ∧ ((V i).1 = none → (V i).2 = 0) ∧ (ps.getD i [] ≠ [] → ∀ x, (V i).1 = some x → v.ownBlock ≠ some x.block)) (hy : IsBy w A p) (hpc : p.length ≤ c) (hA : A = none → c = 0)
    (hap : p ≠ [] → ∀ y, A = some y → v.ownBlock ≠ some y.block) (hlen : ps.length ≤ 1000000000) (hbase : base ≤ w.heap.size) :
    ∃ v' w', (Builtin.append_ #[22, 22] ty #[v, .slice (some ⟨w.heap.size, 0, none⟩) 1 1]).run Tryd.prog (w.alloc (.cells #[.slice A p.length c] 24)) = .ok v' w' ∧ (w'.ownsRow base 24 1 v' (ps ++ [p]).length (txCells (fun i => if i < ps.length then V i else (A, c)) (ps ++ [p])) ∧ ∀ i, i < (ps ++ [p]).length → IsBy w' ((if i < ps.length then V i else (A, c)) : Option Addr × Nat).1 ((ps ++ [p]).getD i []) ∧ ((ps ++ [p]).getD i []).length ≤ ((if i < ps.length then V i else (A, c)) : Option Addr × Nat).2 ∧ (((if i < ps.length then V i else (A, c)) : Option Addr × Nat).1 = none → ((if i < ps.length then V i else (A, c)) : Option Addr × Nat).2 = 0) ∧ ((ps ++ [p]).getD i [] ≠ [] → ∀ x, ((if i < ps.length then V i else (A, c)) : Option Addr × Nat).1 = some x → v'.ownBlock ≠ some x.block)) ∧ w.grownBy w' v.ownBlock ∧ (v'.ownBlock = v.ownBlock ∨ ∃ g, v'.ownBlock = some g ∧ w.heap.size ≤ g) := by
  obtain ⟨i0, hi, hz0, hz1, hz2⟩ := info_text
  have hb0 : Below w.heap.size w (w.alloc (.cells #[.slice A p.length c] 24)) := (Below.refl _ _).alloc (Nat.le_refl _) _
  have hrow : rowAt (w.alloc (.cells #[.slice A p.length c] 24)) w.heap.size = some (#[.slice A p.length c], 24) := rowAt_alloc_at _ _ _ _ rfl
  have hown2 := ownsRow_below h1 hb0
  have hvlt : ∀ k, v.ownBlock = some k → k < w.heap.size := fun k hk => (World.ownsRow.lt h1 k hk).2
  have hsz : w.heap.size ≤ (w.alloc (.cells #[.slice A p.length c] 24)).heap.size := hb0.size
  have h2' : ∀ i, i < ps.length → IsBy (w.alloc (.cells #[.slice A p.length c] 24)) (V i).1 (ps.getD i []) := fun i hi => (h2 i hi).1.below hb0
  have hy' : IsBy (w.alloc (.cells #[.slice A p.length c] 24)) A p := hy.below hb0
  generalize w.alloc (.cells #[.slice A p.length c] 24) = W at *
  have hcell : ∀ j u, [Value.slice A p.length c][j]? = some u → W.cell? ((⟨w.heap.size, 0, none⟩ : Addr).add j) = some u := by
    intro j u hu
    rcases j with _ | j
    · simp at hu
      subst hu
      rw [Addr.add_lit, cell_of_rowAt hrow]; rfl
    · simp at hu
  have hone : ∀ u ∈ [Value.slice A p.length c], u.oneCell' = true := by
    intro u hu
    obtain rfl := List.mem_singleton.1 hu
    rfl
  have key : ∃ v' w', (Builtin.append_ #[22, 22] ty #[v, .slice (some ⟨w.heap.size, 0, none⟩) 1 1]).run Tryd.prog W = .ok v' w' ∧ w'.ownsRow base 24 1 v' (ps.length + 1) (txCells V ps ++ [.slice A p.length c]) ∧ W.grownBy w' v.ownBlock ∧ (v'.ownBlock = v.ownBlock ∨ ∃ g, v'.ownBlock = some g ∧ W.heap.size ≤ g) := by
    obtain ⟨v', w', hr, k2, k3, _⟩ := run_append_own (P := Tryd.prog) W base 22 ty 24 i0 (.slice none 0 0) 1 24 Tryd.underlying22 hi hz0 hz1 hz2 rfl (by decide) v _ _ hown2 ⟨w.heap.size, 0, none⟩ 1 1 [.slice A p.length c] rfl hcell hone (by unfold maxLen; omega) (by omega) (by omega)
    refine ⟨v', w', hr, k2, k3, ?_⟩
    rcases hown2.2 with ⟨hv, hn⟩ | ⟨g, cap, cur, hv, hbg, hg, hnc, hcm, hcs, htk⟩
    · have hnil : W.ownsRow W.heap.size 24 1 v ps.length (txCells V ps) := by
        refine ⟨h1.1, .inl ⟨hv, hn⟩⟩
      obtain ⟨v2, w2, hr2, j2, _, _⟩ := run_append_own (P := Tryd.prog) W W.heap.size 22 ty 24 i0 (.slice none 0 0) 1 24 Tryd.underlying22 hi hz0 hz1 hz2 rfl (by decide) v _ _ hnil ⟨w.heap.size, 0, none⟩ 1 1 [.slice A p.length c] rfl hcell hone (by unfold maxLen; omega) (by omega) (Nat.le_refl _)
      rw [hr] at hr2
      injection hr2 with e1 e2
      subst e1
      cases hb : v'.ownBlock with
      | none => left; rw [hv]; rfl
      | some g => exact Or.inr ⟨g, rfl, (World.ownsRow.lt j2 g hb).1⟩
    · by_cases hroom : ps.length + 1 ≤ cap
      · have hr2 := run_append_room (P := Tryd.prog) W 22 ty 24 i0 Tryd.underlying22 hi g ps.length cap cur hg ⟨w.heap.size, 0, none⟩ 1 1 [.slice A p.length c] (by rw [hz1]; rfl) hcell hone hroom (by rw [hz1, hcs]; simp; omega)
        rw [← hv, hr] at hr2
        injection hr2 with e1 e2
        left
        rw [e1, hv]; rfl
      · have holds : ∀ j u, (txCells V ps)[j]? = some u → W.cell? ((⟨g, 0, none⟩ : Addr).add j) = some u := fun j u hu => World.ownsRow.cells hown2 (by rw [hv]; rfl) j u hu
        obtain ⟨v2, w2, hr2, j2, _⟩ := run_append_arg_grows (P := Tryd.prog) W 22 ty 24 i0 (.slice none 0 0) 1 24 Tryd.underlying22 hi hz0 hz1 hz2 rfl (by decide) ⟨g, 0, none⟩ ps.length cap (txCells V ps) (by simp [txCells]) holds ⟨w.heap.size, 0, none⟩ 1 1 [.slice A p.length c] rfl hcell (by omega) (by unfold maxLen; omega) (by omega)
        rw [← hv, hr] at hr2
        injection hr2 with e1 e2
        subst e1
        right
        rcases j2.2 with ⟨hv2, hn2⟩ | ⟨g2, cap2, cur2, hv2, hbg2, _⟩
        · omega
        · exact ⟨g2, by rw [hv2]; rfl, hbg2⟩
  obtain ⟨v', w', hr, k1, k2, k3⟩ := key
  have keep : ∀ {A1 : Option Addr} {t : List UInt8}, IsBy W A1 t → (t ≠ [] → ∀ y, A1 = some y → v.ownBlock ≠ some y.block) → IsBy w' A1 t := by
    intro A1 t ht hne i hi
    obtain ⟨b, o1, g1, g2⟩ := ht i hi
    have hnb : v.ownBlock ≠ some b := hne (by intro e; subst e; simp at hi) _ g1
    exact ⟨b, o1, g1, (World.cell?_of_block (k2.block b (World.block_lt_of_cell? _ _ g2) (fun e => hnb e.symm))).trans g2⟩
  refine ⟨v', w', hr, ⟨by rw [txCells_snoc, List.length_append]; exact k1, fun i hi => ?_⟩, ?_, k3.imp id (fun ⟨g, h1, h2⟩ => ⟨g, h1, Nat.le_trans hsz h2⟩)⟩
  · rw [List.length_append, List.length_singleton] at hi
    have aw : ∀ {A1 : Option Addr} {t : List UInt8}, IsBy W A1 t → (t ≠ [] → ∀ y, A1 = some y → v.ownBlock ≠ some y.block) → (t ≠ [] → ∀ y, A1 = some y → v'.ownBlock ≠ some y.block) := by
      intro A1 t ht hne hn y hy1
      rcases k3 with k3 | ⟨g, k3, k4⟩
      · rw [k3]; exact hne hn y hy1
      · rw [k3]
        intro e
        injection e with e
        obtain ⟨b, o1, g1, g2⟩ := ht 0 (List.length_pos_iff.2 hn)
        have hlt : b < W.heap.size := World.block_lt_of_cell? _ _ g2
        rw [hy1] at g1
        injection g1 with g1
        have hyb : y.block = b := by rw [g1]
        omega
    by_cases hlt : i < ps.length
    · have e1 : (ps ++ [p]).getD i [] = ps.getD i [] := by simp [List.getD, List.getElem?_append_left hlt]
      rw [e1]
      simp only [if_pos hlt]
      exact ⟨keep (h2' i hlt) (h2 i hlt).2.2.2, (h2 i hlt).2.1, (h2 i hlt).2.2.1, aw (h2' i hlt) (h2 i hlt).2.2.2⟩
    · obtain rfl : i = ps.length := by omega
      have e1 : (ps ++ [p]).getD ps.length [] = p := by simp [List.getD]
      rw [e1]
      simp only [Nat.lt_irrefl, if_false]
      exact ⟨keep hy' hap, hpc, hA, aw hy' hap⟩
  · exact ⟨k2.os.trans hb0.os, k2.tape.trans hb0.tape, k2.output.trans hb0.output, Nat.le_trans hsz k2.size, fun k hk hn => (k2.block k (Nat.lt_of_lt_of_le hk hsz) hn).trans (hb0.block k hk)⟩
/-- append of one text, just laid: where the slice lies then. -/
theorem run_append_text {w : World} (ty : TypeId) (base : Nat) (v : Value) (ps : List (List UInt8)) (p : List UInt8) (A : Option Addr) (c : Nat)
    (hown : OwnTx w base v ps) (hy : IsBy w A p) (hpc : p.length ≤ c) (hA : A = none → c = 0)
    (hap : p ≠ [] → ∀ y, A = some y → v.ownBlock ≠ some y.block) (hlen : ps.length ≤ 1000000000) (hbase : base ≤ w.heap.size) :
    ∃ v' w', (Builtin.append_ #[22, 22] ty #[v, .slice (some ⟨w.heap.size, 0, none⟩) 1 1]).run Tryd.prog (w.alloc (.cells #[.slice A p.length c] 24)) = .ok v' w' ∧ OwnTx w' base v' (ps ++ [p]) ∧ w.grownBy w' v.ownBlock ∧ (v'.ownBlock = v.ownBlock ∨ ∃ g, v'.ownBlock = some g ∧ w.heap.size ≤ g) := by
  obtain ⟨V, h1, h2⟩ := hown
  obtain ⟨v', w', g1, g2, g3⟩ := run_append_textV ty base v ps p A c V h1 h2 hy hpc hA hap hlen hbase
  exact ⟨v', w', g1, ⟨_, g2⟩, g3⟩
theorem OwnTx.grownB {w w' : World} {base : Nat} {v : Value} {ps : List (List UInt8)} (h : OwnTx w base v ps) (hg : w.grownBy w' v.ownBlock) (hbase : base ≤ w.heap.size) : Below base w w' := by
  obtain ⟨V, h1, _⟩ := h
  exact ⟨hg.os, hg.tape, hg.output, hg.size, fun k hk => hg.block k (by omega) (fun e => by have := World.ownsRow.lt h1 k e.symm; omega)⟩
/-- append of one text, just laid: where the slice lies then. -/
theorem wl_append_text_track {ops : Array Oper} {rest : List Oper} {o : Oper} {a : Act} {w : World} {Q : Exit → Act → World → Prop} (hgd : o.guard = none) (s x : Operand)
    (ho : o.op = .call { callee := .builtin .append, args := #[s, x], argTypes := #[22, 22] }) (base : Nat) (v : Value) (ps : List (List UInt8)) (p : List UInt8) (A : Option Addr) (n c : Nat)
    (hown : OwnTx w base v ps) (hs : a.eval s = v) {q : Nat} (hx : a.eval x = .slice (some ⟨q, 0, none⟩) 1 1) (hq : q = w.heap.size) (hy : IsBy w A p) (hn : p.length = n) (hpc : p.length ≤ c) (hA : A = none → c = 0)
    (hap : p ≠ [] → ∀ y, A = some y → v.ownBlock ≠ some y.block) (hlen : ps.length ≤ 1000000000) (hbase : base ≤ w.heap.size)
    (h : ∀ v' w', OwnTx w' base v' (ps ++ [p]) → w.grownBy w' v.ownBlock → (v'.ownBlock = v.ownBlock ∨ ∃ g, v'.ownBlock = some g ∧ w.heap.size ≤ g) → wpList Tryd.prog ops Q rest (a.put o.dst v') w') : wpList Tryd.prog ops Q (o :: rest) a (w.alloc (.cells #[.slice A n c] 24)) := by
  subst hq hn
  obtain ⟨v', w', hr, k1, k2, k3⟩ := run_append_text o.type base v ps p A c hown hy hpc hA hap hlen hbase
  refine wpList_plain hgd fun K hK => ?_
  unfold Oper.wp execOp
  simp only [ho, resolve, invoke, builtin, Sem.run_bind, Sem.run_pure, Result.andThen_ok, List.map_toArray, List.map_cons, List.map_nil, hs, hx, hr]
  exact hK _ _ (h v' w' k1 k2 k3)
/-- append of one text, just laid. -/
theorem wl_append_text {ops : Array Oper} {rest : List Oper} {o : Oper} {a : Act} {w : World} {Q : Exit → Act → World → Prop} (hgd : o.guard = none) (s x : Operand)
    (ho : o.op = .call { callee := .builtin .append, args := #[s, x], argTypes := #[22, 22] }) (base : Nat) (v : Value) (ps : List (List UInt8)) (p : List UInt8) (A : Option Addr) (n c : Nat)
    (hown : OwnTx w base v ps) (hs : a.eval s = v) {q : Nat} (hx : a.eval x = .slice (some ⟨q, 0, none⟩) 1 1) (hq : q = w.heap.size) (hy : IsBy w A p) (hn : p.length = n) (hpc : p.length ≤ c) (hA : A = none → c = 0)
    (hap : p ≠ [] → ∀ y, A = some y → v.ownBlock ≠ some y.block) (hlen : ps.length ≤ 1000000000) (hbase : base ≤ w.heap.size)
    (h : ∀ v' w', OwnTx w' base v' (ps ++ [p]) → Below base w w' → wpList Tryd.prog ops Q rest (a.put o.dst v') w') : wpList Tryd.prog ops Q (o :: rest) a (w.alloc (.cells #[.slice A n c] 24)) := by
  subst hq hn
  obtain ⟨v', w', hr, k1, k2, _⟩ := run_append_text o.type base v ps p A c hown hy hpc hA hap hlen hbase
  refine wpList_plain hgd fun K hK => ?_
  unfold Oper.wp execOp
  simp only [ho, resolve, invoke, builtin, Sem.run_bind, Sem.run_pure, Result.andThen_ok, List.map_toArray, List.map_cons, List.map_nil, hs, hx, hr]
  exact hK _ _ (h v' w' k1 (hown.grownB k2 hbase))
/-- append of one text, just laid, as one operation of a region. -/
theorem wp_append_text {o : Oper} {a : Act} {w : World} {K : Act → World → Prop} {Q : Exit → Act → World → Prop} (s x : Operand)
    (ho : o.op = .call { callee := .builtin .append, args := #[s, x], argTypes := #[22, 22] }) (base : Nat) (v : Value) (ps : List (List UInt8)) (p : List UInt8) (A : Option Addr) (n c : Nat)
    (hown : OwnTx w base v ps) (hs : a.eval s = v) {q : Nat} (hx : a.eval x = .slice (some ⟨q, 0, none⟩) 1 1) (hq : q = w.heap.size) (hy : IsBy w A p) (hn : p.length = n) (hpc : p.length ≤ c) (hA : A = none → c = 0)
    (hap : p ≠ [] → ∀ y, A = some y → v.ownBlock ≠ some y.block) (hlen : ps.length ≤ 1000000000) (hbase : base ≤ w.heap.size)
    (h : ∀ v' w', OwnTx w' base v' (ps ++ [p]) → w.grownBy w' v.ownBlock → (v'.ownBlock = v.ownBlock ∨ ∃ g, v'.ownBlock = some g ∧ w.heap.size ≤ g) → K (a.put o.dst v') w') : o.wp Tryd.prog a (w.alloc (.cells #[.slice A n c] 24)) K Q := by
  subst hq hn
  obtain ⟨v', w', hr, k1, k2, k3⟩ := run_append_text o.type base v ps p A c hown hy hpc hA hap hlen hbase
  unfold Oper.wp execOp
  simp only [ho, resolve, invoke, builtin, Sem.run_bind, Sem.run_pure, Result.andThen_ok, List.map_toArray, List.map_cons, List.map_nil, hs, hx, hr]
  exact h v' w' k1 k2 k3
end Go.Proofs.YtfnbcafilbafgaaDoor
