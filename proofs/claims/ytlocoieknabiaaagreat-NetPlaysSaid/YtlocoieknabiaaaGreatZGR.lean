/-
  Layer 15 (net): a net and what it holds.
-/
import Derived.Test.YtlocoieknabiaaaGreatZGJ
import Derived.Test.YtlocoieknabiaaaGreatZGA
import Derived.Test.YtlocoieknabiaaaGreatZGD
import Derived.Deep.AppendSrc
import Derived.Lib.SliceRun
import Derived.Test.YtlocoieknabiaaaGreatZMsgFacts
namespace Go.Proofs.YtlocoieknabiaaaGreat
set_option maxRecDepth 20000
open Go.RowKit
set_option linter.unusedSimpArgs false
attribute [local go_sem] rowAt_setRow rowAt_setCell Later.cell Later.frozen
/-- Block g is a net, with its book in block q. -/
structure NTv (X : Nat → Prop) (w : World) (g q : Nat) (room : Int) (A : Option Addr) (cap : Nat) (V : Nat → Option Addr × Nat) (ps : List (List UInt8)) (s c l d : Int) : Prop where
  row : rowAt w g = some (#[.pointer (some ⟨q, 0, none⟩), .int .i64 room, .slice A ps.length cap], 58)
  book : rowAt w q = some (#[.int .i64 s, .int .i64 c, .int .i64 l, .int .i64 d], 55)
  lt : q < g
  le : ps.length ≤ cap
  nil : A = none → cap = 0
  big : cap ≤ 9223372036854775807
  off : ∀ x, A = some x → x.block ≠ g ∧ x.block ≠ q
  cell : ∀ i, i < ps.length → ∃ b o, A = some ⟨b, o, none⟩ ∧ w.cell? ⟨b, o + i, none⟩ = some (.slice (V i).1 (ps.getD i []).length (V i).2)
  by_ : ∀ i, i < ps.length → IsBy w (V i).1 (ps.getD i []) ∧ ((V i).1 = none → (V i).2 = 0) ∧ (∀ x, (V i).1 = some x → x.block ≠ g ∧ x.block ≠ q)
  sepA : ∀ x, A = some x → ps ≠ [] → X x.block
  sepV : ∀ i, i < ps.length → ps.getD i [] ≠ [] → ∀ x, (V i).1 = some x → X x.block
def NT (X : Nat → Prop) (w : World) (g q : Nat) (room : Int) (ps : List (List UInt8)) (s c l d : Int) : Prop := ∃ A cap V, NTv X w g q room A cap V ps s c l d
variable {X : Nat → Prop}
/-- The texts stay, whatever the net's own two blocks hold then. -/
theorem NTv.keep {w w' : World} {g q : Nat} {room room' s c l d s' c' l' d' : Int} {A : Option Addr} {cap : Nat} {V : Nat → Option Addr × Nat} {ps : List (List UInt8)} (h : NTv X w g q room A cap V ps s c l d) (ht : Two g q w w')
    (hr : rowAt w' g = some (#[.pointer (some ⟨q, 0, none⟩), .int .i64 room', .slice A ps.length cap], 58)) (hb : rowAt w' q = some (#[.int .i64 s', .int .i64 c', .int .i64 l', .int .i64 d'], 55)) : NTv X w' g q room' A cap V ps s' c' l' d' :=
  ⟨hr, hb, h.lt, h.le, h.nil, h.big, h.off, fun i hi => by
    obtain ⟨b, o, h1, h2⟩ := h.cell i hi
    exact ⟨b, o, h1, ht.cell (h.off _ h1).1 (h.off _ h1).2 h2⟩, fun i hi => ⟨ht.by_ (h.by_ i hi).1 (h.by_ i hi).2.2, (h.by_ i hi).2⟩, h.sepA, h.sepV⟩
theorem NTv.below {w w' : World} {g q : Nat} {room s c l d : Int} {A : Option Addr} {cap : Nat} {V : Nat → Option Addr × Nat} {ps : List (List UInt8)} (h : NTv X w g q room A cap V ps s c l d) (hb : Below w.heap.size w w') : NTv X w' g q room A cap V ps s c l d :=
  h.keep (Two.of_below hb (by have := rowAt_lt h.book; omega)) (rowKeep hb h.row) (rowKeep hb h.book)
theorem NT.below {w w' : World} {g q : Nat} {room s c l d : Int} {ps : List (List UInt8)} (h : NT X w g q room ps s c l d) (hb : Below w.heap.size w w') : NT X w' g q room ps s c l d := by
  obtain ⟨A, cap, V, h⟩ := h
  exact ⟨A, cap, V, h.below hb⟩
theorem info_txt : ∃ i, Tryz.prog.info? 60 = some i ∧ i.zero = some (.slice none 0 0) ∧ i.size = 1 ∧ i.bytes = 24 :=
  info_parts (show (Tryz.prog.info? 60).map (fun i => (i.zero, i.size, i.bytes)) = some (some (.slice none 0 0), 1, 24) by kernel_rfl)
def txC (V : Nat → Option Addr × Nat) (ps : List (List UInt8)) : List Value := (List.range ps.length).map fun i => .slice (V i).1 (ps.getD i []).length (V i).2
theorem txC_len (V : Nat → Option Addr × Nat) (ps : List (List UInt8)) : (txC V ps).length = ps.length := by simp [txC]
theorem txC_get (V : Nat → Option Addr × Nat) (ps : List (List UInt8)) {i : Nat} (hi : i < ps.length) : (txC V ps)[i]? = some (.slice (V i).1 (ps.getD i []).length (V i).2) := by simp [txC, hi]
/-- append of one text to all that is there: a new row. -/
theorem wp_push {o : Oper} {a : Act} {w : World} {K : Act → World → Prop} {Q : Exit → Act → World → Prop} (s x : Operand)
    (ho : o.op = .call { callee := .builtin .append, args := #[s, x], argTypes := #[56, 56] }) {g q : Nat} {room sN cN lN dN : Int} {B : Option Addr} {cap : Nat} {V : Nat → Option Addr × Nat} {ps : List (List UInt8)} (h : NTv X w g q room B cap V ps sN cN lN dN)
    (hs : a.eval s = .slice B ps.length ps.length) {r : Nat} (hx : a.eval x = .slice (some ⟨r, 0, none⟩) 1 1) {A : Option Addr} {b : List UInt8} {ca : Nat} (hr : rowAt w r = some (#[.slice A b.length ca], 60)) (hlen : ps.length ≤ 1000000)
    (hK : ∀ C, ps.length + 1 ≤ C → C ≤ 9223372036854775807 → ∀ w', Below w.heap.size w w' → (∀ i, i < ps.length → w'.cell? ⟨w.heap.size, i, none⟩ = some (.slice (V i).1 (ps.getD i []).length (V i).2)) → w'.cell? ⟨w.heap.size, ps.length, none⟩ = some (.slice A b.length ca) → w.heap.size < w'.heap.size →
      K (a.put o.dst (.slice (some ⟨w.heap.size, 0, none⟩) (ps.length + 1) C)) w') : o.wp Tryz.prog a w K Q := by
  obtain ⟨i0, hi, hz0, hz1, hz2⟩ := info_txt
  have hold : (Builtin.firstCells i0.size ps.length (.slice B ps.length ps.length)).run Tryz.prog w.drew = .ok (txC V ps).toArray w.drew := by
    rw [hz1]
    cases B with
    | none =>
      have : ps = [] := List.eq_nil_of_length_eq_zero (by have := h.le; have := h.nil rfl; omega)
      subst this
      exact run_firstCells_none w.drew 1 0 0 0
    | some ad =>
      refine run_firstCells_some w.drew 1 ps.length ad ps.length ps.length (txC V ps) (by rw [txC_len, Nat.mul_one]) fun j v hj => ?_
      have hlt : j < ps.length := by rw [← txC_len V ps]; exact (List.getElem?_eq_some_iff.1 hj).1
      obtain ⟨b1, o1, h1, h2⟩ := h.cell j hlt
      injection h1 with h1
      subst h1
      rw [txC_get V ps hlt] at hj
      rw [Addr.add_lit, ← hj]
      exact h2
  have hsrc : Src Tryz.prog i0.size 56 (.slice (some ⟨r, 0, none⟩) 1 1) 1 [.slice A b.length ca] w := by
    rw [hz1]
    refine Src.ofSlice w Tryz.underlying56 ⟨r, 0, none⟩ 1 1 [.slice A b.length ca] rfl (fun j u hj => ?_) (fun u hu => ?_)
    · match j, hj with
      | 0, hj =>
        rw [Addr.add_lit, cell_of_rowAt hr]
        exact hj
      | j + 1, hj => simp at hj
    · rw [List.mem_singleton.1 hu]; rfl
  have hcap : Builtin.nextslicecap (ps.length + 1) ps.length * i0.bytes ≤ 281474976710656 := by
    have := nextslicecap_le (need := ps.length + 1) (old := ps.length) (by omega)
    rw [hz2]
    omega
  have hrun := run_append_grow_src w 56 56 o.type 60 i0 (.slice none 0 0) Tryz.underlying56 hi hz0 B ps.length ps.length (txC V ps) hold _ 1 _ hsrc (by omega) (by omega) hcap
  have hC1 := grownCap_ge w (ps.length + 1) ps.length 60
  have hC2 := grownCap_le_maxLen w (ps.length + 1) ps.length 60 (by unfold maxLen; omega)
  generalize grownCap w (ps.length + 1) ps.length 60 = C at *
  unfold Oper.wp execOp
  simp only [ho, resolve, invoke, builtin, Sem.run_bind, Sem.run_pure, Result.andThen_ok, List.map_toArray, List.map_cons, List.map_nil, hs, hx, hrun]
  refine hK C hC1 (by unfold maxLen at hC2; omega) _ ((Below.refl _ _).drew.alloc (by simp) _) (fun i hi2 => ?_) ?_ (by simp)
  · rw [cell_of_rowAt (rowAt_alloc_at _ _ _ _ (by simp)), Array.getElem?_append_left (by simp [txC_len]; omega), List.getElem?_toArray, List.getElem?_append_left (by rw [txC_len]; exact hi2)]
    exact txC_get V ps hi2
  · rw [cell_of_rowAt (rowAt_alloc_at _ _ _ _ (by simp)), Array.getElem?_append_left (by simp [txC_len]), List.getElem?_toArray, List.getElem?_append_right (by rw [txC_len]; exact Nat.le_refl _), txC_len, Nat.sub_self]
    rfl
theorem push_end {w w1 : World} {g q D C : Nat} {room s c l d : Int} {B : Option Addr} {cap : Nat} {V : Nat → Option Addr × Nat} {ps : List (List UInt8)} {A : Option Addr} {ca : Nat} {b : List UInt8} (h : NTv X w1 g q room B cap V ps s c l d) (hI : IsBy w1 A b) (hb : Below w.heap.size w w1) (hg : g < w.heap.size)
    (hN : A = none → ca = 0) (ho : ∀ x, A = some x → x.block ≠ g ∧ x.block ≠ q) (hC1 : ps.length + 1 ≤ C) (hC2 : C ≤ 9223372036854775807) (hD : w.heap.size ≤ D) (hX : ∀ b, w.heap.size ≤ b → X b) (hT : ∀ x, A = some x → b ≠ [] → X x.block)
    (hc1 : ∀ i, i < ps.length → w1.cell? ⟨D, i, none⟩ = some (.slice (V i).1 (ps.getD i []).length (V i).2)) (hc2 : w1.cell? ⟨D, ps.length, none⟩ = some (.slice A b.length ca)) :
    NT X (w1.setCell ⟨g, 2, none⟩ (.slice (some ⟨D, 0, none⟩) (ps.length + 1) C)) g q room (ps ++ [b]) s c l d ∧ Two g q w (w1.setCell ⟨g, 2, none⟩ (.slice (some ⟨D, 0, none⟩) (ps.length + 1) C)) := by
  have hlt := h.lt
  have hTw : Two g q w1 (w1.setCell ⟨g, 2, none⟩ (.slice (some ⟨D, 0, none⟩) (ps.length + 1) C)) := Two.setG (Nat.le_of_lt hlt) _
  refine ⟨⟨some ⟨D, 0, none⟩, C, fun i => if i < ps.length then V i else (A, ca), ⟨?_, ?_, hlt, by simpa using hC1, fun h => (by cases h), hC2, fun x hx => ?_, fun i hi => ?_, fun i hi => ?_, fun x hx _ => ?_, fun i hi => ?_⟩⟩, (Two.of_below hb (by omega)).trans hTw⟩
  · rw [rowAt_setCell, if_pos rfl, h.row, List.length_append]; rfl
  · rw [rowAt_setCell, if_neg (by omega)]; exact h.book
  · injection hx with hx
    subst hx
    exact ⟨by show D ≠ g; omega, by show D ≠ q; omega⟩
  · refine ⟨D, 0, rfl, ?_⟩
    rw [Nat.zero_add]
    by_cases hl : i < ps.length
    · simp only [if_pos hl]
      rw [show (ps ++ [b]).getD i [] = ps.getD i [] by simp [List.getD, List.getElem?_append_left hl]]
      exact hTw.cell (by omega) (by omega) (hc1 i hl)
    · obtain rfl : i = ps.length := by simp at hi; omega
      simp only [Nat.lt_irrefl, if_false]
      rw [show (ps ++ [b]).getD ps.length [] = b by simp [List.getD]]
      exact hTw.cell (by omega) (by omega) hc2
  · by_cases hl : i < ps.length
    · simp only [if_pos hl]
      rw [show (ps ++ [b]).getD i [] = ps.getD i [] by simp [List.getD, List.getElem?_append_left hl]]
      exact ⟨hTw.by_ (h.by_ i hl).1 (h.by_ i hl).2.2, (h.by_ i hl).2⟩
    · obtain rfl : i = ps.length := by simp at hi; omega
      simp only [Nat.lt_irrefl, if_false]
      rw [show (ps ++ [b]).getD ps.length [] = b by simp [List.getD]]
      exact ⟨hTw.by_ hI ho, hN, ho⟩
  · injection hx with hx
    subst hx
    exact hX _ hD
  · by_cases hl : i < ps.length
    · simp only [if_pos hl]
      rw [show (ps ++ [b]).getD i [] = ps.getD i [] by simp [List.getD, List.getElem?_append_left hl]]
      exact h.sepV i hl
    · obtain rfl : i = ps.length := by simp at hi; omega
      simp only [Nat.lt_irrefl, if_false]
      rw [show (ps ++ [b]).getD ps.length [] = b by simp [List.getD]]
      exact fun hb x hx => hT x hx hb
theorem push_any (g q : Nat) (room s c l d : Int) (ps : List (List UInt8)) (w : World) (h : NT X w g q room ps s c l d) (A : Option Addr) (ca : Nat) (b : List UInt8) (hI : IsBy w A b) (hN : A = none → ca = 0) (ho : ∀ x, A = some x → x.block ≠ g ∧ x.block ≠ q) (hlen : ps.length ≤ 1000000) (hX : ∀ b, w.heap.size ≤ b → X b) (hT : ∀ x, A = some x → b ≠ [] → X x.block) :
    Calls Tryz.prog 21 #[.pointer (some ⟨g, 0, none⟩), .slice A b.length ca] w fun e w' => e = .returned (.tuple #[]) ∧ NT X w' g q room (ps ++ [b]) s c l d ∧ Two g q w w' := by
  obtain ⟨B, cap, V, h⟩ := h
  have HX0 := Lib.hid hX
  have HT0 := Lib.hid hT
  clear hX hT
  go_enter Tryz.func21, Tryz.ntmps21
  refine wp_region_tail_drew (m := 19) (S := fun w' : World => NTv X w' g q room B cap V ps s c l d ∧ IsBy w' A b ∧ Hid (Below w.heap.size w w')) (by kernel_rfl) ⟨h.below (Below.refl _ _).drew, hI.below (Below.refl _ _).drew, Lib.hid (Below.refl _ _).drew⟩ (fun hS => ?_)
  have hgl := rowAt_lt h.row
  clear h hI
  generalize w.drew = W7 at *
  refine tail_take (i := 0) (by simp only [List.getElem?_toArray, List.getElem?_cons_succ, List.getElem?_cons_zero]; rfl) (by decide +kernel) (by decide) (by decide +kernel) (by decide +kernel) (by decide +kernel) (by exact fun _ _ _ _ h => h) hS (by rfl) ?_
  apply Exists.intro
  refine ⟨fun w' hSw => ?_, ?_⟩
  · go_simp
    with_reducible rfl
  (try simp only [act_put, act_put_none, List.set_cons_zero, List.set_cons_succ])
  refine tail_take (i := 1) (by simp only [List.getElem?_toArray, List.getElem?_cons_succ, List.getElem?_cons_zero]; rfl) (by decide +kernel) (by decide) (by decide +kernel) (by decide +kernel) (by decide +kernel) (by exact fun _ _ _ _ h => h) hS (by rfl) ?_
  apply Exists.intro
  refine ⟨fun w' hSw => ?_, ?_⟩
  · go_simp
    with_reducible rfl
  (try simp only [act_put, act_put_none, List.set_cons_zero, List.set_cons_succ])
  refine tail_take (i := 2) (by simp only [List.getElem?_toArray, List.getElem?_cons_succ, List.getElem?_cons_zero]; rfl) (by decide +kernel) (by decide) (by decide +kernel) (by decide +kernel) (by decide +kernel) (by exact fun _ _ _ _ h => h) hS (by rfl) ?_
  apply Exists.intro
  refine ⟨fun w' hSw => ?_, ?_⟩
  · go_simp
    with_reducible rfl
  (try simp only [act_put, act_put_none, List.set_cons_zero, List.set_cons_succ])
  refine tail_take (i := 3) (by simp only [List.getElem?_toArray, List.getElem?_cons_succ, List.getElem?_cons_zero]; rfl) (by decide +kernel) (by decide) (by decide +kernel) (by decide +kernel) (by decide +kernel) (by exact fun _ _ _ _ h => h) hS (by rfl) ?_
  apply Exists.intro
  refine ⟨fun w' hSw => ?_, ?_⟩
  · go_simp
    with_reducible rfl
  (try simp only [act_put, act_put_none, List.set_cons_zero, List.set_cons_succ])
  refine tail_take (i := 4) (by simp only [List.getElem?_toArray, List.getElem?_cons_succ, List.getElem?_cons_zero]; rfl) (by decide +kernel) (by decide) (by decide +kernel) (by decide +kernel) (by decide +kernel) (by exact fun _ _ _ _ h => h) hS (by rfl) ?_
  apply Exists.intro
  refine ⟨fun w' hSw => ?_, ?_⟩
  · have q1 : w'.cell? ⟨g, 2, none⟩ = some (.slice B ps.length cap) := by rw [cell_of_rowAt hSw.1.row]; rfl
    go_simp
    with_reducible rfl
  (try simp only [act_put, act_put_none, List.set_cons_zero, List.set_cons_succ])
  refine tail_take (i := 5) (by simp only [List.getElem?_toArray, List.getElem?_cons_succ, List.getElem?_cons_zero]; rfl) (by decide +kernel) (by decide) (by decide +kernel) (by decide +kernel) (by decide +kernel) (by exact fun _ _ _ _ h => h) hS (by rfl) ?_
  apply Exists.intro
  refine ⟨fun w' hSw => ?_, ?_⟩
  · go_simp
    with_reducible rfl
  (try simp only [act_put, act_put_none, List.set_cons_zero, List.set_cons_succ])
  refine tail_take (i := 6) (by simp only [List.getElem?_toArray, List.getElem?_cons_succ, List.getElem?_cons_zero]; rfl) (by decide +kernel) (by decide) (by decide +kernel) (by decide +kernel) (by decide +kernel) (by exact fun _ _ _ _ h => h) hS (by rfl) ?_
  apply Exists.intro
  refine ⟨fun w' hSw => ?_, ?_⟩
  · go_simp
    with_reducible rfl
  (try simp only [act_put, act_put_none, List.set_cons_zero, List.set_cons_succ])
  refine tail_take (i := 7) (by simp only [List.getElem?_toArray, List.getElem?_cons_succ, List.getElem?_cons_zero]; rfl) (by decide +kernel) (by decide) (by decide +kernel) (by decide +kernel) (by decide +kernel) (by exact fun _ _ _ _ h => h) hS (by rfl) ?_
  apply Exists.intro
  refine ⟨fun w' hSw => ?_, ?_⟩
  · go_simp
    with_reducible rfl
  (try simp only [act_put, act_put_none, List.set_cons_zero, List.set_cons_succ])
  refine tail_take (i := 8) (by simp only [List.getElem?_toArray, List.getElem?_cons_succ, List.getElem?_cons_zero]; rfl) (by decide +kernel) (by decide) (by decide +kernel) (by decide +kernel) (by decide +kernel) (by exact fun _ _ _ _ h => h) hS (by rfl) ?_
  apply Exists.intro
  refine ⟨fun w' hSw => ?_, ?_⟩
  · have q1 : w'.cell? ⟨g, 2, none⟩ = some (.slice B ps.length cap) := by rw [cell_of_rowAt hSw.1.row]; rfl
    go_simp
    with_reducible rfl
  (try simp only [act_put, act_put_none, List.set_cons_zero, List.set_cons_succ])
  refine tail_take (i := 9) (by simp only [List.getElem?_toArray, List.getElem?_cons_succ, List.getElem?_cons_zero]; rfl) (by decide +kernel) (by decide) (by decide +kernel) (by decide +kernel) (by decide +kernel) (by exact fun _ _ _ _ h => h) hS (by rfl) ?_
  apply Exists.intro
  refine ⟨fun w' hSw => ?_, ?_⟩
  · go_simp
    with_reducible rfl
  (try simp only [act_put, act_put_none, List.set_cons_zero, List.set_cons_succ])
  refine tail_take (i := 10) (by simp only [List.getElem?_toArray, List.getElem?_cons_succ, List.getElem?_cons_zero]; rfl) (by decide +kernel) (by decide) (by decide +kernel) (by decide +kernel) (by decide +kernel) (by exact fun _ _ _ _ h => h) hS (by rfl) ?_
  apply Exists.intro
  refine ⟨fun w' hSw => ?_, ?_⟩
  · go_simp
    with_reducible rfl
  (try simp only [act_put, act_put_none, List.set_cons_zero, List.set_cons_succ])
  refine tail_take (i := 11) (by simp only [List.getElem?_toArray, List.getElem?_cons_succ, List.getElem?_cons_zero]; rfl) (by decide +kernel) (by decide) (by decide +kernel) (by decide +kernel) (by decide +kernel) (by exact fun _ _ _ _ h => h) hS (by rfl) ?_
  apply Exists.intro
  refine ⟨fun w' hSw => ?_, ?_⟩
  · go_simp
    with_reducible rfl
  (try simp only [act_put, act_put_none, List.set_cons_zero, List.set_cons_succ])
  refine tail_take (i := 12) (by simp only [List.getElem?_toArray, List.getElem?_cons_succ, List.getElem?_cons_zero]; rfl) (by decide +kernel) (by decide) (by decide +kernel) (by decide +kernel) (by decide +kernel) (by exact fun _ _ _ _ h => h) hS (by rfl) ?_
  apply Exists.intro
  refine ⟨fun w' hSw => ?_, ?_⟩
  · go_simp
    with_reducible rfl
  (try simp only [act_put, act_put_none, List.set_cons_zero, List.set_cons_succ])
  refine tail_take (i := 13) (by simp only [List.getElem?_toArray, List.getElem?_cons_succ, List.getElem?_cons_zero]; rfl) (by decide +kernel) (by decide) (by decide +kernel) (by decide +kernel) (by decide +kernel) (by exact fun _ _ _ _ h => h) hS (by rfl) ?_
  apply Exists.intro
  refine ⟨fun w' hSw => ?_, ?_⟩
  · have q1 : w'.cell? ⟨g, 2, none⟩ = some (.slice B ps.length cap) := by rw [cell_of_rowAt hSw.1.row]; rfl
    go_simp
    with_reducible rfl
  (try simp only [act_put, act_put_none, List.set_cons_zero, List.set_cons_succ])
  refine tail_take (i := 14) (by simp only [List.getElem?_toArray, List.getElem?_cons_succ, List.getElem?_cons_zero]; rfl) (by decide +kernel) (by decide) (by decide +kernel) (by decide +kernel) (by decide +kernel) (by exact fun _ _ _ _ h => h) hS (by rfl) ?_
  apply Exists.intro
  refine ⟨fun w' hSw => ?_, ?_⟩
  · go_simp
    with_reducible rfl
  (try simp only [act_put, act_put_none, List.set_cons_zero, List.set_cons_succ])
  refine tail_take (i := 15) (by simp only [List.getElem?_toArray, List.getElem?_cons_succ, List.getElem?_cons_zero]; rfl) (by decide +kernel) (by decide) (by decide +kernel) (by decide +kernel) (by decide +kernel) (by exact fun _ _ _ _ h => h) hS (by rfl) ?_
  apply Exists.intro
  refine ⟨fun w' hSw => ?_, ?_⟩
  · have q2 := hSw.1.le
    go_simp
    with_reducible rfl
  (try simp only [act_put, act_put_none, List.set_cons_zero, List.set_cons_succ])
  refine tail_take (i := 16) (by simp only [List.getElem?_toArray, List.getElem?_cons_succ, List.getElem?_cons_zero]; rfl) (by decide +kernel) (by decide) (by decide +kernel) (by decide +kernel) (by decide +kernel) (by exact fun _ _ _ _ h => h) hS (by rfl) ?_
  apply Exists.intro
  refine ⟨fun w' hSw => ?_, ?_⟩
  · go_simp
    with_reducible rfl
  (try simp only [act_put, act_put_none, List.set_cons_zero, List.set_cons_succ])
  refine wpAnyT_ready (rs := [17]) (by decide +kernel) (by simp) ?_
  refine AllReadyT.cons (i := 17) (by simp only [List.getElem?_toArray, List.getElem?_cons_succ, List.getElem?_cons_zero]; rfl) (fun K hK => ?_) ?_
  · go_simp
    have HX : Below W7.heap.size W7 (W7.alloc (.cells #[.slice A b.length ca] 60)) := (Below.refl _ _).alloc (Nat.le_refl _) _
    refine hK.out _ _ ⟨hS.1.below HX, hS.2.1.below HX, Lib.hid (bthen hS.2.2.out HX)⟩ (fun hS2 => ?_)
    clear hS hK K
    have hS := hS2
    clear hS2
    (try simp only [act_put, act_put_none, List.set_cons_zero, List.set_cons_succ])
    refine wpAnyT_ready (rs := [18]) (by decide +kernel) (by simp) ?_
    refine AllReadyT.cons (i := 18) (by simp only [List.getElem?_toArray, List.getElem?_cons_succ, List.getElem?_cons_zero]; rfl) (fun K hK => ?_) ?_
    · refine wp_push _ _ rfl hS.1 rfl rfl (rowAt_alloc_at _ _ _ _ rfl) hlen ?_
      intro C hC1 hC2 w' hb hc1 hc2 hsz
      have HD : Hid (w.heap.size ≤ W7.heap.size + 1) := Lib.hid (by have := hS.2.2.out.size; simpa using this)
      simp only [World.size_alloc] at hc1 hc2
      refine hK.out _ _ ⟨hS.1.below hb, hS.2.1.below hb, Lib.hid (bthen hS.2.2.out hb)⟩ (fun hS2 => ?_)
      clear hS hK K
      have hS := hS2
      clear hS2
      (try simp only [act_put, act_put_none, List.set_cons_zero, List.set_cons_succ])
      refine wpAnyT_ready (rs := [19]) (by decide +kernel) (by simp) ?_
      refine AllReadyT.last (i := 19) (by simp only [List.getElem?_toArray, List.getElem?_cons_succ, List.getElem?_cons_zero]; rfl) (by decide) (fun K hK => ?_) ?_
      · go_simp
        refine hK.out _ _ ?_
        clear hK K
        (try simp only [act_put, act_put_none, List.set_cons_zero, List.set_cons_succ])
        refine wpAnyT_ready (rs := [20]) (by decide +kernel) (by simp) ?_
        refine AllReadyT.last (i := 20) (by simp only [List.getElem?_toArray, List.getElem?_cons_succ, List.getElem?_cons_zero]; rfl) (by decide) (fun K hK => ?_) ?_
        · go_simp
          refine hK.out _ _ ?_
          clear hK K
          (try simp only [act_put, act_put_none, List.set_cons_zero, List.set_cons_succ])
          refine wpAnyT_ready (rs := [21]) (by decide +kernel) (by simp) ?_
          refine AllReadyT.last (i := 21) (by simp only [List.getElem?_toArray, List.getElem?_cons_succ, List.getElem?_cons_zero]; rfl) (by decide) (fun K hK => ?_) ?_
          · have f2 := frozen_of_rowAt hS.1.row 2
            have q1 : w'.cell? ⟨g, 2, none⟩ = some (.slice B ps.length cap) := by rw [cell_of_rowAt hS.1.row]; rfl
            go_simp
            refine hK.out _ _ ?_
            clear hK K
            (try simp only [act_put, act_put_none, List.set_cons_zero, List.set_cons_succ])
            refine wpAnyT_done (by decide +kernel) ?_ _
            go_wp2_with fail
            refine bodyPost_end (v := .tuple #[]) (by simp [results, show Tryz.f21.results = #[] from rfl]) rfl ?_
            exact ⟨rfl, push_end hS.1 hS.2.1 hS.2.2.out hgl hN ho hC1 hC2 HD.out HX0.out HT0.out hc1 hc2⟩
          exact AllReadyT.nil
        exact AllReadyT.nil
      exact AllReadyT.nil
    exact AllReadyT.nil
  exact AllReadyT.nil
--PUSH
end Go.Proofs.YtlocoieknabiaaaGreat

/-
  Layer 15 (net): New, Len, Counts, Send.
-/
namespace Go.Proofs.YtlocoieknabiaaaGreat
set_option maxRecDepth 20000
open Go.RowKit
set_option linter.unusedSimpArgs false
attribute [local go_sem] rowAt_setRow rowAt_setCell Later.cell Later.frozen
variable {X : Nat → Prop}
theorem netNew_ok (room : Int) (w : World) (h1 : 1 ≤ room) (h2 : room ≤ 256) : Calls Tryz.prog 4 #[.int .i64 room] w fun e w' => ∃ g q, e = .returned (.pointer (some ⟨g, 0, none⟩)) ∧ NT X w' g q room [] 0 0 0 0 ∧ w.heap.size ≤ q ∧ Below w.heap.size w w' := by
  have g1 : decide (room < 1) = false := decide_eq_false (by omega)
  have g2 : decide (256 < room) = false := decide_eq_false (by omega)
  go_enter Tryz.func4, Tryz.ntmps4
  go_wp2
  go_ret
  refine ⟨w.heap.size + 1, w.heap.size, rfl, ⟨none, 0, fun _ => (none, 0), ⟨?_, ?_, by omega, Nat.le_refl _, fun _ => rfl, by decide, fun x h => (by cases h), fun i hi => absurd hi (by simp), fun i hi => absurd hi (by simp), fun x h => (by cases h), fun i hi => absurd hi (by simp)⟩⟩, Nat.le_refl _, below_allocS (below_allocS (Below.refl _ _) _) _⟩
  · exact rowAt_alloc_at _ _ _ _ (by simp)
  · exact rowPast (rowAt_alloc_at _ _ _ _ rfl)
theorem len_any {w : World} {g q : Nat} {room s c l d : Int} {ps : List (List UInt8)} (h : NT X w g q room ps s c l d) : Calls Tryz.prog 17 #[.pointer (some ⟨g, 0, none⟩)] w fun e w' => e = .returned (.int .i64 (ps.length : Int)) ∧ w = w' := by
  obtain ⟨A, cap, V, h⟩ := h
  have c2 : w.cell? ⟨g, 2, none⟩ = some (.slice A ps.length cap) := by rw [cell_of_rowAt h.row]; rfl
  clear h
  go_enter Tryz.func17, Tryz.ntmps17
  go_wp2_with fail
  go_ret
  exact ⟨rfl, rfl⟩
theorem load_cnt {w : World} {g : Nat} {c : Array Value} {t : TypeId} (h : rowAt w g = some (c, t)) (hc : c.size = 4) : loadAgg Tryz.prog w 49 (.pointer (some ⟨g, 0, none⟩)) = .ok (.value (.agg c)) w := by
  rw [loadAgg_row (n := 4) Tryz.underlying49 rfl (by kernel_rfl) (by rw [h]; rfl) (by simp [rowCells, h, hc])]
  congr 3
  simp [rowCells, h, ← hc]
theorem bookCounts_any {w : World} {q : Nat} {s c l d : Int} (h : rowAt w q = some (#[.int .i64 s, .int .i64 c, .int .i64 l, .int .i64 d], 55)) : Calls Tryz.prog 26 #[.pointer (some ⟨q, 0, none⟩)] w fun e w' => e = .returned (.agg #[.int .i64 s, .int .i64 c, .int .i64 l, .int .i64 d]) ∧ Below w.heap.size w w' := by
  have k0 : w.cell? ⟨q, 0, none⟩ = some (.int .i64 s) := by rw [cell_of_rowAt h]; rfl
  have k1 : w.cell? ⟨q, 1, none⟩ = some (.int .i64 c) := by rw [cell_of_rowAt h]; rfl
  have k2 : w.cell? ⟨q, 2, none⟩ = some (.int .i64 l) := by rw [cell_of_rowAt h]; rfl
  have k3 : w.cell? ⟨q, 3, none⟩ = some (.int .i64 d) := by rw [cell_of_rowAt h]; rfl
  have hq := rowAt_lt h
  have hq2 := Nat.ne_of_lt hq
  clear h
  go_enter Tryz.func26, Tryz.ntmps26
  go_wp2_with fail
  exact ret_c rfl rfl rfl (load_cnt (rowAt_alloc_at _ _ _ _ rfl) rfl) ⟨rfl, below_allocS (Below.refl _ _) _⟩
theorem counts_any {w : World} {g q : Nat} {room s c l d : Int} {ps : List (List UInt8)} (h : NT X w g q room ps s c l d) : Calls Tryz.prog 16 #[.pointer (some ⟨g, 0, none⟩)] w fun e w' => e = .returned (.agg #[.int .i64 s, .int .i64 c, .int .i64 l, .int .i64 d]) ∧ Below w.heap.size w w' := by
  obtain ⟨A, cap, V, h⟩ := h
  have k0 : (w.alloc (.cells #[.int .i64 0, .int .i64 0, .int .i64 0, .int .i64 0] 49)).cell? ⟨g, 0, none⟩ = some (.pointer (some ⟨q, 0, none⟩)) := by rw [cell_of_rowAt (rowPast h.row)]; rfl
  have HB := Lib.hid h.book
  clear h
  go_enter Tryz.func16, Tryz.ntmps16
  go_wp2_with fail
  refine (bookCounts_any (rowPast HB.out)).mono ?_
  rintro e w1 ⟨rfl, hb⟩
  have r1 : rowAt w1 w.heap.size = some (#[.int .i64 0, .int .i64 0, .int .i64 0, .int .i64 0], 49) := rowKeep hb (rowAt_alloc_at _ _ _ _ rfl)
  have k1 : w1.cell? ⟨w.heap.size, 0, none⟩ = some (.int .i64 0) := by rw [cell_of_rowAt r1]; rfl
  have k2 : w1.cell? ⟨w.heap.size, 1, none⟩ = some (.int .i64 0) := by rw [cell_of_rowAt r1]; rfl
  have k3 : w1.cell? ⟨w.heap.size, 2, none⟩ = some (.int .i64 0) := by rw [cell_of_rowAt r1]; rfl
  have k4 : w1.cell? ⟨w.heap.size, 3, none⟩ = some (.int .i64 0) := by rw [cell_of_rowAt r1]; rfl
  have kf := frozen_of_rowAt r1
  have HB1 := Lib.hid (bthen (below_allocS (Below.refl _ _) _) hb)
  clear hb
  go_wp2_with fail
  have hfin : rowAt ((((w1.setCell ⟨w.heap.size, 0, none⟩ (.int .i64 s)).setCell ⟨w.heap.size, 1, none⟩ (.int .i64 c)).setCell ⟨w.heap.size, 2, none⟩ (.int .i64 l)).setCell ⟨w.heap.size, 3, none⟩ (.int .i64 d)) w.heap.size = some (#[.int .i64 s, .int .i64 c, .int .i64 l, .int .i64 d], 49) := by
    simp only [rowAt_setCell, if_true, r1, Option.map_some, List.setIfInBounds_toArray, List.set_cons_succ, List.set_cons_zero]
  refine ret_c rfl rfl rfl (load_cnt hfin rfl) ⟨rfl, ?_⟩
  iterate 4 refine below_setCell' ?_ (Nat.le_refl _)
  exact HB1.out
theorem send_ok (m : Msg) (b : List UInt8) {w : World} {g q : Nat} {room s c l d : Int} {ps : List (List UInt8)}
    (hE : ∀ w', Below w.heap.size w w' → Calls Tryz.prog 20 #[.agg m.cells] w' fun e w2 => ∃ A c, e = .returned (.tuple #[.slice A b.length c, .int .i64 0]) ∧ IsBy w2 A b ∧ (A = none → c = 0) ∧ (∀ x, A = some x → w'.heap.size ≤ x.block) ∧ Below w'.heap.size w' w2)
    (h : NT X w g q room ps s c l d) (hroom : ¬ (ps.length : Int) = room) (hlen : ps.length ≤ 1000000) (hs : 0 ≤ s ∧ s ≤ 1000000) (hX : ∀ b, w.heap.size ≤ b → X b) :
    Calls Tryz.prog 8 #[.pointer (some ⟨g, 0, none⟩), .agg m.cells] w fun e w' => e = .returned (.int .i64 0) ∧ NT X w' g q room (ps ++ [b]) (s + 1) c l d ∧ Two g q w w' := by
  have HE := Lib.hid (hE _ ((Below.refl w.heap.size w).alloc (Nat.le_refl _) (.cells m.cells 34)))
  have H := Lib.hid (h.below ((Below.refl w.heap.size w).alloc (Nat.le_refl _) (.cells m.cells 34)))
  have hg : g < w.heap.size := by obtain ⟨_, _, _, h⟩ := h; exact rowAt_lt h.row
  have hqg : q < g := by obtain ⟨_, _, _, h⟩ := h; exact h.lt
  have HX := Lib.hid hX
  clear hE h hX
  unfold Msg.cells at *
  go_enter Tryz.func8, Tryz.ntmps8
  go_wp2_with fail
  refine HE.out.mono ?_
  rintro e w1 ⟨A1, c1, rfl, hI, hN, hO, hb⟩
  have H1 := Lib.hid (H.out.below hb)
  have hg1 : g < w1.heap.size := by have := hb.size; simp at this; omega
  have HB1 : Hid (Below w.heap.size w w1) := Lib.hid (bthen (below_allocS (Below.refl _ _) _) hb)
  have HI := Lib.hid hI
  have HO : Hid (∀ x, A1 = some x → x.block ≠ g ∧ x.block ≠ q) := Lib.hid fun x hx => by have := hO x hx; simp at this; omega
  have HTX : Hid (∀ x, A1 = some x → b ≠ [] → X x.block) := Lib.hid fun x hx _ => HX.out _ (by have := hO x hx; simp at this; omega)
  clear hb hI hO HE H
  obtain ⟨A, cap, V, hv⟩ := H1.out
  have r1 := hv.row
  have k1 : w1.cell? ⟨g, 1, none⟩ = some (.int .i64 room) := by rw [cell_of_rowAt r1]; rfl
  have k2 : w1.cell? ⟨g, 2, none⟩ = some (.slice A ps.length cap) := by rw [cell_of_rowAt r1]; rfl
  clear hv
  go_upto_region 6 with fail
  refine region_quiet (by kernel_rfl) (by kernel_rfl) ?_
  repeat (go_big_quiet_step (fail))
  refine wpQuiet_nil ?_
  intro w2 hb
  have H2 := Lib.hid (H1.out.below hb)
  have HI2 := Lib.hid (HI.out.below hb)
  have HB2 := Lib.hid (bthen HB1.out hb)
  clear hb H1 HI HB1 r1 k1 k2
  go_wp2_with fail
  refine (push_any g q room s c l d ps _ H2.out A1 c1 b HI2.out hN HO.out hlen (fun b hb => HX.out b (Nat.le_trans HB2.out.size hb)) HTX.out).mono ?_
  rintro e w3 ⟨rfl, hn, ht⟩
  have HT : Hid (Two g q w w3) := Lib.hid ((Two.of_below HB2.out (by omega)).trans ht)
  have hn3 := hn
  obtain ⟨A3, cap3, V3, hv⟩ := hn3
  have k0 : w3.cell? ⟨g, 0, none⟩ = some (.pointer (some ⟨q, 0, none⟩)) := by rw [cell_of_rowAt hv.row]; rfl
  have kq : w3.cell? ⟨q, 0, none⟩ = some (.int .i64 s) := by rw [cell_of_rowAt hv.book]; rfl
  have kf := frozen_of_rowAt hv.book 0
  have hw : IntKind.i64.wrap (s + 1) = s + 1 := IntWalk.i64_in _ (by omega)
  have HV := Lib.hid hv
  clear ht hn hv H2 HI2 HB2 HO
  go_wp2_with fail
  go_ret
  have h1 : Two g q w3 (w3.setCell ⟨q, 0, none⟩ (.int .i64 (s + 1))) := Two.setQ _
  refine ⟨rfl, ⟨A3, cap3, V3, HV.out.keep h1 (by rw [rowAt_setCell, if_neg (by omega)]; exact HV.out.row) (by rw [rowAt_setCell, if_pos rfl, HV.out.book]; rfl)⟩, HT.out.trans h1⟩
end Go.Proofs.YtlocoieknabiaaaGreat

/-
  Layer 15 (net): a message is taken off the row.
-/
namespace Go.Proofs.YtlocoieknabiaaaGreat
set_option maxRecDepth 20000
open Go.RowKit
set_option linter.unusedSimpArgs false
attribute [local go_sem] rowAt_setRow rowAt_setCell Later.cell Later.frozen
theorem eql_txs (w : World) (a : Option Addr) (n c : Nat) : (binOp .eql 56 (.slice a n c) (.slice none 0 0)).run Tryz.prog w = .ok (.bool a.isNone) w := Lib.run_eql_slice_nil w _ _ a n c 0 0 Tryz.underlying56
attribute [local go_sem] eql_txs
theorem wp_append_is {o : Oper} {a : Act} {w w' : World} {K : Act → World → Prop} {Q : Exit → Act → World → Prop} {v u x : Value} (s y : Operand) {t1 t2 : TypeId}
    (ho : o.op = .call { callee := .builtin .append, args := #[s, y], argTypes := #[t1, t2] }) (hs : a.eval s = v) (hx : a.eval y = x)
    (hrun : (Builtin.append_ #[t1, t2] o.type #[v, x]).run Tryz.prog w = .ok u w') (hK : K (a.put o.dst u) w') : o.wp Tryz.prog a w K Q := by
  unfold Oper.wp execOp
  simp only [ho, resolve, invoke, builtin, Sem.run_bind, Sem.run_pure, Result.andThen_ok, List.map_toArray, List.map_cons, List.map_nil, hs, hx, hrun]
  exact hK
theorem wl_append_is {ops : Array Oper} {rest : List Oper} {o : Oper} {a : Act} {w w' : World} {Q : Exit → Act → World → Prop} {v u x : Value} (hgd : o.guard = none) (s y : Operand) {t1 t2 : TypeId}
    (ho : o.op = .call { callee := .builtin .append, args := #[s, y], argTypes := #[t1, t2] }) (hs : a.eval s = v) (hx : a.eval y = x)
    (hrun : (Builtin.append_ #[t1, t2] o.type #[v, x]).run Tryz.prog w = .ok u w') (h : wpList Tryz.prog ops Q rest (a.put o.dst u) w') : wpList Tryz.prog ops Q (o :: rest) a w := by
  refine wpList_plain hgd fun K hK => ?_
  unfold Oper.wp execOp
  simp only [ho, resolve, invoke, builtin, Sem.run_bind, Sem.run_pure, Result.andThen_ok, List.map_toArray, List.map_cons, List.map_nil, hs, hx, hrun]
  exact hK _ _ h
/-- A slice of texts, copied. -/
theorem tclone_any (ad : Addr) (c : Nat) (V : Nat → Option Addr × Nat) (ps : List (List UInt8)) (w : World) (hc : ∀ i, i < ps.length → w.cell? (ad.add i) = some (.slice (V i).1 (ps.getD i []).length (V i).2)) (h0 : 0 < ps.length) (hlen : ps.length ≤ 1000000) :
    Calls Tryz.prog 38 #[.slice (some ad) ps.length c] w fun e w' => ∃ nb C R, e = .returned (.slice (some ⟨nb, 0, none⟩) ps.length C) ∧ rowAt w' nb = some (R, 60) ∧ R.size = C ∧ ps.length ≤ C ∧ C ≤ 9223372036854775807 ∧ (∀ i, i < ps.length → R[i]? = some (.slice (V i).1 (ps.getD i []).length (V i).2)) ∧ w.heap.size ≤ nb ∧ Below w.heap.size w w' := by
  obtain ⟨i0, hi, hz0, hz1, hz2⟩ := info_txt
  have hsrc : ∀ W : World, Below w.heap.size w W → Src Tryz.prog i0.size 56 (.slice (some ad) ps.length c) ps.length (txC V ps) W := fun W hb => by
    rw [hz1]
    refine Src.ofSlice W Tryz.underlying56 ad ps.length c (txC V ps) (by rw [txC_len, Nat.mul_one]) (fun j u hj => ?_) (fun u hu => ?_)
    · have hlt : j < ps.length := by rw [← txC_len V ps]; exact (List.getElem?_eq_some_iff.1 hj).1
      rw [txC_get V ps hlt] at hj
      have h1 := hc j hlt
      rw [← hj]
      exact (hb.cell (World.block_lt_of_cell? _ _ h1)).trans h1
    · obtain ⟨i, _, rfl⟩ := List.mem_map.1 hu
      rfl
  have HS := Lib.hid hsrc
  clear hsrc hc
  have hcap : Builtin.nextslicecap (0 + ps.length) 0 * i0.bytes ≤ 281474976710656 := by
    have := nextslicecap_le (need := 0 + ps.length) (old := 0) (by omega)
    rw [hz2]
    omega
  have hW : ∀ W : World, W = w.alloc (.cells #[] 60) → ∀ ty, (Builtin.append_ #[56, 56] ty #[.slice (some ⟨w.heap.size, 0, none⟩) 0 0, .slice (some ad) ps.length c]).run Tryz.prog W = _ := fun W hW ty =>
    run_append_grow_src W 56 56 ty 60 i0 (.slice none 0 0) Tryz.underlying56 hi hz0 (some ⟨w.heap.size, 0, none⟩) 0 0 [] (by rw [hz1]; exact run_firstCells_some W.drew 1 0 _ 0 0 [] rfl (fun j v hj => by simp at hj)) _ ps.length _ (HS.out W (by rw [hW]; exact (Below.refl _ _).alloc (Nat.le_refl _) _)) (by omega) (by omega) hcap
  have HW := Lib.hid hW
  clear hW
  have hC1 := grownCap_ge (w.alloc (.cells #[] 60)) (0 + ps.length) 0 60
  have hC2 := grownCap_le_maxLen (w.alloc (.cells #[] 60)) (0 + ps.length) 0 60 (by unfold maxLen; omega)
  go_enter Tryz.func38, Tryz.ntmps38
  go_wp2_with (at_builtin; refine wl_append_is rfl _ _ rfl rfl rfl (HW.out _ rfl _) ?_)
  rw [Nat.zero_add] at hC1 hC2
  obtain ⟨C, hC⟩ : ∃ C, grownCap (w.alloc (.cells #[] 60)) ps.length 0 60 = C := ⟨_, rfl⟩
  rw [hC] at hC1 hC2 ⊢
  go_ret
  refine ⟨w.heap.size + 1, C, (txC V ps).toArray ++ Builtin.zeroCells #[Value.slice none 0 0] (C - ps.length), rfl, ?_, ?_, hC1, by unfold maxLen at hC2; omega, fun i hi => ?_, by omega, ?_⟩
  · rw [rowAt_drew]; exact rowAt_alloc_at _ _ _ _ (by simp)
  · rw [Array.size_append, List.size_toArray, txC_len]
    simp [Builtin.zeroCells]
    omega
  · rw [Array.getElem?_append_left (by simp [txC_len, hi]), List.getElem?_toArray]
    exact txC_get V ps hi
  · exact (below_allocS (below_allocS (Below.refl _ _) _) _).drew
theorem Only.setCells (p : Nat) : ∀ (vs : List Value) (i : Nat) (w : World), Only p w (w.setCells p i vs)
  | [], _, _ => Only.refl _ _
  | v :: r, i, w => by rw [World.setCells]; exact (Only.setCell v).trans (Only.setCells p r (i + 1) _)
theorem tdelete_facts (nb m C i : Nat) (R : Array Value) (w : World) (hr : rowAt w nb = some (R, 60)) (hR : R.size = C) (hC : i + 1 + m ≤ C) (hone : ∀ j v, R[j]? = some v → j < i + 1 + m → v.oneCell' = true) :
    ∃ (N : List Value) (X : Option Addr), (if C = i + 1 then some ⟨nb, 0, none⟩ else some ⟨nb, i + 1, none⟩) = X ∧
      (∀ ty, (Builtin.append_ #[56, 56] ty #[.slice (some ⟨nb, 0, none⟩) i C, .slice X m (C - (i + 1))]).run Tryz.prog w = .ok (.slice (some ⟨nb, 0, none⟩) (i + m) C) (w.setCells nb i N)) ∧
      (∀ ty c, (Builtin.clear_ #[56] ty #[.slice (some ⟨nb, i + m, none⟩) 1 c]).run Tryz.prog (w.setCells nb i N) = .ok (.tuple #[]) ((w.setCells nb i N).setCells nb (i + m) [.slice none 0 0])) ∧
      (∀ j, j < i + m → ((w.setCells nb i N).setCells nb (i + m) [.slice none 0 0]).cell? ⟨nb, j, none⟩ = if j < i then R[j]? else R[j + 1]?) ∧ Only nb w ((w.setCells nb i N).setCells nb (i + m) [.slice none 0 0]) := by
  obtain ⟨i0, hi0, hz0, hz1, hz2⟩ := info_txt
  have hcell : ∀ j, w.cell? ⟨nb, j, none⟩ = R[j]? := fun j => cell_of_rowAt hr j
  have hlen : ((R.toList.drop (i + 1)).take m).length = m := by simp; omega
  have hget : ∀ j, j < m → ((R.toList.drop (i + 1)).take m)[j]? = R[i + 1 + j]? := fun j hj => by rw [List.getElem?_take, if_pos hj, List.getElem?_drop, Array.getElem?_toList]
  have hsome : ∀ j, j < C → (w.cell? ⟨nb, j, none⟩).isSome = true := fun j hj => by rw [hcell, Array.getElem?_eq_getElem (by omega)]; rfl
  have hfz : ∀ j, w.frozen? ⟨nb, j, none⟩ = false := frozen_of_rowAt hr
  obtain ⟨N, hN⟩ : ∃ N, (R.toList.drop (i + 1)).take m = N := ⟨_, rfl⟩
  rw [hN] at hlen hget
  obtain ⟨X, hX⟩ : ∃ X : Option Addr, (if C = i + 1 then some ⟨nb, 0, none⟩ else some ⟨nb, i + 1, none⟩) = X := ⟨_, rfl⟩
  have hsrc : Src Tryz.prog i0.size 56 (.slice X m (C - (i + 1))) m N w := by
    rw [hz1, ← hX]
    by_cases hCi : C = i + 1
    · rw [if_pos hCi]
      exact Src.ofSlice w Tryz.underlying56 _ m _ N (by omega) (fun j u hj => by have := (List.getElem?_eq_some_iff.1 hj).1; omega) (fun u hu => by have := List.length_pos_of_mem hu; omega)
    · rw [if_neg hCi]
      refine Src.ofSlice w Tryz.underlying56 _ m _ N (by omega) (fun j u hj => ?_) (fun u hu => ?_)
      · have hj' := (List.getElem?_eq_some_iff.1 hj).1
        rw [Addr.add_lit, hcell, ← hget j (by omega)]
        exact hj
      · obtain ⟨j, hj, hju⟩ := List.mem_iff_getElem.1 hu
        exact hone (i + 1 + j) u (by rw [← hget j (by omega), List.getElem?_eq_getElem hj, hju]) (by omega)
  have hrun : ∀ ty, (Builtin.append_ #[56, 56] ty #[.slice (some ⟨nb, 0, none⟩) i C, .slice X m (C - (i + 1))]).run Tryz.prog w = .ok (.slice (some ⟨nb, 0, none⟩) (i + m) C) (w.setCells nb i N) := fun ty => by
    have := run_append_room_src w 56 56 ty 60 i0 Tryz.underlying56 hi0 nb 0 i C _ m N hsrc (by omega) (fun j hj => by rw [hz1]; exact hsome _ (by omega)) (fun j _ => hfz _)
    rw [hz1, Nat.mul_one, Nat.zero_add] at this
    exact this
  have k1 : ∀ j, j < i + m → (w.setCells nb i N).cell? ⟨nb, j, none⟩ = if j < i then R[j]? else R[j + 1]? := fun j hj => by
    by_cases hji : j < i
    · rw [if_pos hji, World.cell?_setCells_out nb N i w ⟨nb, j, none⟩ (fun _ _ => Or.inl hji), hcell]
    · rw [if_neg hji]
      have := World.cell?_setCells_in nb N i w (fun j hj => hsome _ (by omega)) (j - i) (by omega)
      rw [show i + (j - i) = j by omega] at this
      rw [this, ← List.getElem?_eq_getElem (by omega), hget _ (by omega), show i + 1 + (j - i) = j + 1 by omega]
  have hz : ∀ w, (zeroValue 60).run Tryz.prog w = .ok (.slice none 0 0) w := fun w => by simp [zeroValue, typeInfo, hi0, hz0]
  have hclr : ∀ ty c, (Builtin.clear_ #[56] ty #[.slice (some ⟨nb, i + m, none⟩) 1 c]).run Tryz.prog (w.setCells nb i N) = .ok (.tuple #[]) ((w.setCells nb i N).setCells nb (i + m) [.slice none 0 0]) := fun ty c =>
    Lib.run_clear_slice _ 56 60 ty (.slice none 0 0) Tryz.underlying56 hz rfl rfl nb (i + m) 1 c (by decide) (fun j hj => World.isSome_setCells nb N i w _ (hsome _ (by omega))) (fun j hj => by rw [World.frozen?_setCells]; exact hfz _)
  have k2 : ∀ j, j < i + m → ((w.setCells nb i N).setCells nb (i + m) [.slice none 0 0]).cell? ⟨nb, j, none⟩ = if j < i then R[j]? else R[j + 1]? := fun j hj => by
    rw [World.cell?_setCells_out nb _ (i + m) _ ⟨nb, j, none⟩ (fun _ _ => Or.inl hj)]
    exact k1 j hj
  have k3 : Only nb w ((w.setCells nb i N).setCells nb (i + m) [.slice none 0 0]) := (Only.setCells nb N i w).trans (Only.setCells nb _ (i + m) _)
  exact ⟨N, X, hX, hrun, hclr, k2, k3⟩
theorem tdelete_any (nb m C i : Nat) (R : Array Value) (w : World) (hr : rowAt w nb = some (R, 60)) (hR : R.size = C) (hC : i + 1 + m ≤ C) (hone : ∀ j v, R[j]? = some v → j < i + 1 + m → v.oneCell' = true) :
    Calls Tryz.prog 37 #[.slice (some ⟨nb, 0, none⟩) (i + 1 + m) C, .int .i64 i, .int .i64 ((i : Int) + 1)] w fun e w' => e = .returned (.slice (some ⟨nb, 0, none⟩) (i + m) C) ∧ (∀ j, j < i + m → w'.cell? ⟨nb, j, none⟩ = if j < i then R[j]? else R[j + 1]?) ∧ Only nb w w' := by
  have e1 : ((i : Int) + 1) = ((i + 1 : Nat) : Int) := by omega
  rw [e1]
  have h1 : i ≤ i + 1 := by omega
  have h2 : i + 1 ≤ i + 1 + m := by omega
  have h3 : i ≤ C := by omega
  have h4 : i + 1 + m - (i + 1) = m := by omega
  have hd : rowAt w.drew nb = some (R, 60) := hr
  have ho : Only nb w w.drew := ⟨Nat.le_refl _, (Below.refl _ _).drew, fun _ _ _ => rfl⟩
  obtain ⟨N, X, hX, hrun, hclr, k2, k3⟩ := tdelete_facts nb m C i R w.drew hd hR hC hone
  have b1 : (0 : Int) ≤ (i : Int) + 1 := by omega
  have b2 : (i : Int) + 1 ≤ (i : Int) + 1 + (m : Int) := by omega
  have b3 : (0 : Int) ≤ (i : Int) + (m : Int) := by omega
  have b4 : (i : Int) + (m : Int) ≤ (i : Int) + 1 + (m : Int) := by omega
  have b5 : i + m ≤ i + 1 + m := by omega
  have b6 : ¬ C = i + m := by omega
  have b7 : i + 1 + m - (i + m) = 1 := by omega
  have HA := Lib.hid hrun
  have HL := Lib.hid hclr
  have HC := Lib.hid k2
  have HOn := Lib.hid (ho.trans k3)
  clear hr hone e1 hrun hclr k2 k3 hR hd ho
  go_enter Tryz.func37, Tryz.ntmps37
  go_upto_region 5 with fail
  refine wp_region_held_drew (S := fun _ : World => True) (by kernel_rfl) trivial (fun hS => ?_)
  refine held_take (i := 0) (by simp only [List.getElem?_toArray, List.getElem?_cons_succ, List.getElem?_cons_zero]; rfl) (by decide +kernel) (by decide +kernel) (by decide +kernel) (by exact fun _ _ _ _ h => h) hS (by rfl) ?_
  apply Exists.intro
  refine ⟨fun w' hSw => ?_, ?_⟩
  · go_simp
    with_reducible rfl
  (try simp only [act_put, act_put_none, List.set_cons_zero, List.set_cons_succ])
  refine held_take (i := 1) (by simp only [List.getElem?_toArray, List.getElem?_cons_succ, List.getElem?_cons_zero]; rfl) (by decide +kernel) (by decide +kernel) (by decide +kernel) (by exact fun _ _ _ _ h => h) hS (by rfl) ?_
  apply Exists.intro
  refine ⟨fun w' hSw => ?_, ?_⟩
  · go_simp
    with_reducible rfl
  (try simp only [act_put, act_put_none, List.set_cons_zero, List.set_cons_succ])
  refine held_take (i := 2) (by simp only [List.getElem?_toArray, List.getElem?_cons_succ, List.getElem?_cons_zero]; rfl) (by decide +kernel) (by decide +kernel) (by decide +kernel) (by exact fun _ _ _ _ h => h) hS (by rfl) ?_
  apply Exists.intro
  refine ⟨fun w' hSw => ?_, ?_⟩
  · go_simp
    with_reducible rfl
  (try simp only [act_put, act_put_none, List.set_cons_zero, List.set_cons_succ])
  refine held_take (i := 3) (by simp only [List.getElem?_toArray, List.getElem?_cons_succ, List.getElem?_cons_zero]; rfl) (by decide +kernel) (by decide +kernel) (by decide +kernel) (by exact fun _ _ _ _ h => h) hS (by rfl) ?_
  apply Exists.intro
  refine ⟨fun w' hSw => ?_, ?_⟩
  · go_simp
    with_reducible rfl
  (try simp only [act_put, act_put_none, List.set_cons_zero, List.set_cons_succ])
  refine held_take (i := 4) (by simp only [List.getElem?_toArray, List.getElem?_cons_succ, List.getElem?_cons_zero]; rfl) (by decide +kernel) (by decide +kernel) (by decide +kernel) (by exact fun _ _ _ _ h => h) hS (by rfl) ?_
  apply Exists.intro
  refine ⟨fun w' hSw => ?_, ?_⟩
  · go_simp
    with_reducible rfl
  (try simp only [act_put, act_put_none, List.set_cons_zero, List.set_cons_succ])
  refine held_take (i := 5) (by simp only [List.getElem?_toArray, List.getElem?_cons_succ, List.getElem?_cons_zero]; rfl) (by decide +kernel) (by decide +kernel) (by decide +kernel) (by exact fun _ _ _ _ h => h) hS (by rfl) ?_
  apply Exists.intro
  refine ⟨fun w' hSw => ?_, ?_⟩
  · go_simp
    with_reducible rfl
  (try simp only [act_put, act_put_none, List.set_cons_zero, List.set_cons_succ])
  refine wpAnyH_ready (rs := [6]) (by decide +kernel) (by simp) ?_
  refine AllReadyH.cons (i := 6) (by simp only [List.getElem?_toArray, List.getElem?_cons_succ, List.getElem?_cons_zero]; rfl) (fun K hK => ?_) ?_
  · refine wp_append_is _ _ rfl rfl rfl (HA.out _) ?_
    refine hK.out _ _ hS (fun hS2 => ?_)
    clear hK K hS2
    (try simp only [act_put, act_put_none, List.set_cons_zero, List.set_cons_succ])
    refine held_take (i := 7) (by simp only [List.getElem?_toArray, List.getElem?_cons_succ, List.getElem?_cons_zero]; rfl) (by decide +kernel) (by decide +kernel) (by decide +kernel) (by exact fun _ _ _ _ h => h) hS (by rfl) ?_
    apply Exists.intro
    refine ⟨fun w' hSw => ?_, ?_⟩
    · go_simp
      with_reducible rfl
    (try simp only [act_put, act_put_none, List.set_cons_zero, List.set_cons_succ])
    refine wpAnyH_done (by decide +kernel) ?_ _
    clear HA
    have hL := HL.out
    clear HL
    go_wp2_with fail
    go_ret
    refine ⟨rfl, HC.out, HOn.out⟩
  exact AllReadyH.nil
--DEL
end Go.Proofs.YtlocoieknabiaaaGreat

/-
  Layer 15 (net): Take, Lose, Twice.
-/
namespace Go.Proofs.YtlocoieknabiaaaGreat
set_option maxRecDepth 20000
open Go.RowKit
set_option linter.unusedSimpArgs false
attribute [local go_sem] rowAt_setRow rowAt_setCell Later.cell Later.frozen
theorem tdelete_n {nb n C i : Nat} {R : Array Value} {w : World} (hr : rowAt w nb = some (R, 60)) (hR : R.size = C) (hi : i < n) (hC : n ≤ C) (hone : ∀ j v, R[j]? = some v → j < n → v.oneCell' = true) :
    Calls Tryz.prog 37 #[.slice (some ⟨nb, 0, none⟩) n C, .int .i64 i, .int .i64 ((i : Int) + 1)] w fun e w' => e = .returned (.slice (some ⟨nb, 0, none⟩) (n - 1) C) ∧ (∀ j, j < n - 1 → w'.cell? ⟨nb, j, none⟩ = if j < i then R[j]? else R[j + 1]?) ∧ Only nb w w' := by
  obtain ⟨m, rfl⟩ : ∃ m, n = i + 1 + m := ⟨n - (i + 1), by omega⟩
  rw [show i + 1 + m - 1 = i + m by omega]
  exact tdelete_any nb m C i R w hr hR hC hone
/-- The row without one. -/
def without (ps : List (List UInt8)) (k : Nat) : List (List UInt8) := ps.take k ++ ps.drop (k + 1)
theorem without_len {ps : List (List UInt8)} {k : Nat} (hk : k < ps.length) : (without ps k).length = ps.length - 1 := by simp [without]; omega
theorem without_get {ps : List (List UInt8)} {k j : Nat} (hk : k < ps.length) : (without ps k).getD j [] = if j < k then ps.getD j [] else ps.getD (j + 1) [] := by
  unfold without
  by_cases h : j < k
  · rw [if_pos h]
    simp [List.getD, List.getElem?_append_left (show j < (ps.take k).length by simp; omega), h]
  · rw [if_neg h]
    have hl : (ps.take k).length = k := by simp; omega
    simp only [List.getD, List.getElem?_append_right (show (ps.take k).length ≤ j by omega), hl, List.getElem?_drop]
    rw [show k + 1 + (j - k) = j + 1 by omega]
variable {X : Nat → Prop}
theorem pull_end {w w1 : World} {g q nb C k : Nat} {room s c l d : Int} {B : Option Addr} {cap : Nat} {V : Nat → Option Addr × Nat} {ps : List (List UInt8)} (h : NTv X w1 g q room B cap V ps s c l d) (hb : Below w.heap.size w w1) (hg : g < w.heap.size) (hk : k < ps.length)
    (hC1 : ps.length ≤ C) (hC2 : C ≤ 9223372036854775807) (hD : w.heap.size ≤ nb) (hX : ∀ b, w.heap.size ≤ b → X b) (hc : ∀ j, j < ps.length - 1 → w1.cell? ⟨nb, j, none⟩ = if j < k then some (.slice (V j).1 (ps.getD j []).length (V j).2) else some (.slice (V (j + 1)).1 (ps.getD (j + 1) []).length (V (j + 1)).2)) :
    NTv X (w1.setCell ⟨g, 2, none⟩ (.slice (some ⟨nb, 0, none⟩) (ps.length - 1) C)) g q room (some ⟨nb, 0, none⟩) C (fun j => if j < k then V j else V (j + 1)) (without ps k) s c l d ∧ Two g q w (w1.setCell ⟨g, 2, none⟩ (.slice (some ⟨nb, 0, none⟩) (ps.length - 1) C)) := by
  have hlt := h.lt
  have hT : Two g q w1 (w1.setCell ⟨g, 2, none⟩ (.slice (some ⟨nb, 0, none⟩) (ps.length - 1) C)) := Two.setG (Nat.le_of_lt hlt) _
  refine ⟨⟨?_, ?_, hlt, by rw [without_len hk]; omega, fun h => (by cases h), hC2, fun x hx => ?_, fun i hi => ?_, fun i hi => ?_, fun x hx _ => ?_, fun i hi => ?_⟩, (Two.of_below hb (by omega)).trans hT⟩
  · rw [rowAt_setCell, if_pos rfl, h.row, without_len hk]; rfl
  · rw [rowAt_setCell, if_neg (by omega)]; exact h.book
  · injection hx with hx
    subst hx
    exact ⟨by show nb ≠ g; omega, by show nb ≠ q; omega⟩
  · refine ⟨nb, 0, rfl, ?_⟩
    rw [without_len hk] at hi
    rw [Nat.zero_add, without_get hk]
    have := hc i hi
    by_cases hl : i < k
    · simp only [if_pos hl] at this ⊢
      exact hT.cell (by omega) (by omega) this
    · simp only [if_neg hl] at this ⊢
      exact hT.cell (by omega) (by omega) this
  · rw [without_len hk] at hi
    rw [without_get hk]
    by_cases hl : i < k
    · simp only [if_pos hl]
      exact ⟨hT.by_ (h.by_ i (by omega)).1 (h.by_ i (by omega)).2.2, (h.by_ i (by omega)).2⟩
    · simp only [if_neg hl]
      exact ⟨hT.by_ (h.by_ (i + 1) (by omega)).1 (h.by_ (i + 1) (by omega)).2.2, (h.by_ (i + 1) (by omega)).2⟩
  · injection hx with hx
    subst hx
    exact hX _ hD
  · rw [without_len hk] at hi
    rw [without_get hk]
    by_cases hl : i < k
    · simp only [if_pos hl]
      exact h.sepV i (by omega)
    · simp only [if_neg hl]
      exact h.sepV (i + 1) (by omega)
set_option maxHeartbeats 1000000 in
theorem pull_okv {w : World} {g q k : Nat} {room s c l d : Int} {B : Option Addr} {cap : Nat} {V : Nat → Option Addr × Nat} {ps : List (List UInt8)} (h : NTv X w g q room B cap V ps s c l d) (hk : k < ps.length) (hlen : ps.length ≤ 1000000) (hX : ∀ b, w.heap.size ≤ b → X b) :
    Calls Tryz.prog 22 #[.pointer (some ⟨g, 0, none⟩), .int .i64 (k : Int)] w fun e w' => ∃ A ca, e = .returned (.tuple #[.slice A (ps.getD k []).length ca, .int .i64 0]) ∧ IsBy w' A (ps.getD k []) ∧ (A = none → ca = 0) ∧ (∀ x, A = some x → x.block ≠ g ∧ x.block ≠ q) ∧ (∃ nb C, NTv X w' g q room (some ⟨nb, 0, none⟩) C (fun j => if j < k then V j else V (j + 1)) (without ps k) s c l d ∧ w.heap.size ≤ nb) ∧ Two g q w w' := by
  have hgl := rowAt_lt h.row
  obtain ⟨b1, o1, rfl, hcell⟩ := h.cell k hk
  have g1 : decide ((k : Int) < 0) = false := decide_eq_false (by omega)
  have g2 : decide ((ps.length : Int) ≤ (k : Int)) = false := decide_eq_false (by omega)
  have hw : IntKind.i64.wrap ((k : Int) + 1) = (k : Int) + 1 := IntWalk.i64_in _ (by omega)
  have k2 : w.cell? ⟨g, 2, none⟩ = some (.slice (some ⟨b1, o1, none⟩) ps.length cap) := by rw [cell_of_rowAt h.row]; rfl
  have HV := Lib.hid h
  have HX := Lib.hid hX
  clear hX
  have hcs : ∀ i, i < ps.length → w.cell? ((⟨b1, o1, none⟩ : Addr).add i) = some (.slice (V i).1 (ps.getD i []).length (V i).2) := fun i hi => by
    obtain ⟨b2, o2, e2, h2⟩ := h.cell i hi
    injection e2 with e2
    injection e2 with e3 e4
    subst e3 e4
    rw [Addr.add_lit]
    exact h2
  have HCS := Lib.hid hcs
  clear h hcs
  go_enter Tryz.func22, Tryz.ntmps22
  go_wp2_with fail
  refine (tclone_any ⟨b1, o1, none⟩ cap V ps w HCS.out (by omega) hlen).mono ?_
  rintro e w1 ⟨nb, C, R, rfl, hr, hR, hC1, hC2, hRg, hnb, hb⟩
  have HR := Lib.hid hr
  have HRg := Lib.hid hRg
  have HB := Lib.hid hb
  clear hr hRg hb
  go_wp2_with fail
  refine (tdelete_n HR.out hR hk hC1 (fun j v hj hjn => by rw [HRg.out j hjn] at hj; injection hj with hj; subst hj; rfl)).mono ?_
  rintro e w2 ⟨rfl, hc2, ho⟩
  have HB2 : Hid (Below w.heap.size w w2) := Lib.hid (HB.out.trans (ho.2.1.mono hnb))
  have hv2 := HV.out.below HB2.out
  have f2 := frozen_of_rowAt hv2.row 2
  have k3 : w2.cell? ⟨g, 2, none⟩ = some (.slice (some ⟨b1, o1, none⟩) ps.length cap) := by rw [cell_of_rowAt hv2.row]; rfl
  have HV2 := Lib.hid hv2
  have HC2 : Hid (∀ j, j < ps.length - 1 → w2.cell? ⟨nb, j, none⟩ = if j < k then some (.slice (V j).1 (ps.getD j []).length (V j).2) else some (.slice (V (j + 1)).1 (ps.getD (j + 1) []).length (V (j + 1)).2)) := Lib.hid fun j hj => by
    rw [hc2 j hj]
    by_cases hjk : j < k
    · rw [if_pos hjk, if_pos hjk, HRg.out j (by omega)]
    · rw [if_neg hjk, if_neg hjk, HRg.out (j + 1) (by omega)]
  clear hv2 hc2 ho HRg HR HCS
  go_wp2_with fail
  go_ret2
  obtain ⟨e1, e2⟩ := pull_end HV2.out HB2.out hgl hk hC1 hC2 hnb HX.out HC2.out
  have hby := HV2.out.by_ k hk
  have hpk : ps.getD k [] = ps[k] := by simp [List.getD, hk]
  exact ⟨(V k).1, (V k).2, by rw [hpk]; rfl, (Two.setG (Nat.le_of_lt HV2.out.lt) _).by_ hby.1 hby.2.2, hby.2.1, hby.2.2, ⟨nb, C, e1, hnb⟩, e2⟩
theorem pull_ok {w : World} {g q k : Nat} {room s c l d : Int} {ps : List (List UInt8)} (h : NT X w g q room ps s c l d) (hk : k < ps.length) (hlen : ps.length ≤ 1000000) (hX : ∀ b, w.heap.size ≤ b → X b) :
    Calls Tryz.prog 22 #[.pointer (some ⟨g, 0, none⟩), .int .i64 (k : Int)] w fun e w' => ∃ A ca, e = .returned (.tuple #[.slice A (ps.getD k []).length ca, .int .i64 0]) ∧ IsBy w' A (ps.getD k []) ∧ (A = none → ca = 0) ∧ (∀ x, A = some x → x.block ≠ g ∧ x.block ≠ q) ∧ NT X w' g q room (without ps k) s c l d ∧ Two g q w w' := by
  obtain ⟨B, cap, V, h⟩ := h
  refine (pull_okv h hk hlen hX).mono ?_
  rintro e w' ⟨A, ca, h1, h2, h3, h4, ⟨nb, C, h5, _⟩, h6⟩
  exact ⟨A, ca, h1, h2, h3, h4, ⟨_, _, _, h5⟩, h6⟩
/-- Another block changes. -/
theorem NTv.only {w w' : World} {g q r : Nat} {room s c l d : Int} {A : Option Addr} {cap : Nat} {V : Nat → Option Addr × Nat} {ps : List (List UInt8)} (h : NTv X w g q room A cap V ps s c l d) (ho : Only r w w') (h1 : g ≠ r) (h2 : q ≠ r) (h3 : ∀ x, A = some x → x.block ≠ r)
    (h4 : ∀ i, i < ps.length → ps.getD i [] ≠ [] → ∀ x, (V i).1 = some x → x.block ≠ r) : NTv X w' g q room A cap V ps s c l d :=
  ⟨ho.row h1 h.row, ho.row h2 h.book, h.lt, h.le, h.nil, h.big, h.off, fun i hi => by
    obtain ⟨b, o, e1, e2⟩ := h.cell i hi
    exact ⟨b, o, e1, ho.cell (h3 _ e1) e2⟩, fun i hi => ⟨fun j hj => by
    obtain ⟨b, o, e1, e2⟩ := (h.by_ i hi).1 j hj
    exact ⟨b, o, e1, ho.cell (h4 i hi (by intro h0; rw [h0] at hj; simp at hj) _ e1) e2⟩, (h.by_ i hi).2⟩, h.sepA, h.sepV⟩
theorem isBy_lt {w : World} {A : Option Addr} {t : List UInt8} (h : IsBy w A t) (ht : t ≠ []) : ∀ x, A = some x → x.block < w.heap.size := fun x hx => by
  obtain ⟨b, o, e1, e2⟩ := h 0 (List.length_pos_iff.2 ht)
  rw [hx] at e1
  injection e1 with e1
  subst e1
  exact World.block_lt_of_cell? _ _ e2
theorem NTv.bump {w : World} {g q i : Nat} {room s c l d s' c' l' d' : Int} {A : Option Addr} {cap : Nat} {V : Nat → Option Addr × Nat} {ps : List (List UInt8)} {v : Value} (h : NTv X w g q room A cap V ps s c l d) (hv : (#[.int .i64 s, .int .i64 c, .int .i64 l, .int .i64 d] : Array Value).setIfInBounds i v = #[.int .i64 s', .int .i64 c', .int .i64 l', .int .i64 d']) :
    NTv X (w.setCell ⟨q, i, none⟩ v) g q room A cap V ps s' c' l' d' ∧ Two g q w (w.setCell ⟨q, i, none⟩ v) := by
  have h1 : Two g q w (w.setCell ⟨q, i, none⟩ v) := Two.setQ _
  have hlt := h.lt
  exact ⟨h.keep h1 (by rw [rowAt_setCell, if_neg (by omega)]; exact h.row) (by rw [rowAt_setCell, if_pos rfl, h.book]; exact congrArg (fun x => some (x, 55)) hv), h1⟩
/-- A number of the book goes up by one. -/
theorem NT.book {w : World} {g q i : Nat} {room s c l d s' c' l' d' : Int} {ps : List (List UInt8)} {v : Value} (h : NT X w g q room ps s c l d) (hv : (#[.int .i64 s, .int .i64 c, .int .i64 l, .int .i64 d] : Array Value).setIfInBounds i v = #[.int .i64 s', .int .i64 c', .int .i64 l', .int .i64 d']) :
    NT X (w.setCell ⟨q, i, none⟩ v) g q room ps s' c' l' d' ∧ Two g q w (w.setCell ⟨q, i, none⟩ v) := by
  obtain ⟨A, cap, V, h⟩ := h
  have h1 : Two g q w (w.setCell ⟨q, i, none⟩ v) := Two.setQ _
  have hlt := h.lt
  exact ⟨⟨A, cap, V, h.keep h1 (by rw [rowAt_setCell, if_neg (by omega)]; exact h.row) (by rw [rowAt_setCell, if_pos rfl, h.book]; exact congrArg (fun x => some (x, 55)) hv)⟩, h1⟩
theorem NT.cells {w : World} {g q : Nat} {room s c l d : Int} {ps : List (List UInt8)} (h : NT X w g q room ps s c l d) : w.cell? ⟨g, 0, none⟩ = some (.pointer (some ⟨q, 0, none⟩)) ∧ w.cell? ⟨q, 0, none⟩ = some (.int .i64 s) ∧ w.cell? ⟨q, 1, none⟩ = some (.int .i64 c) ∧ w.cell? ⟨q, 2, none⟩ = some (.int .i64 l) ∧ w.cell? ⟨q, 3, none⟩ = some (.int .i64 d) ∧ (∀ i, w.frozen? ⟨q, i, none⟩ = false) ∧ g < w.heap.size ∧ q < g := by
  obtain ⟨A, cap, V, h⟩ := h
  exact ⟨by rw [cell_of_rowAt h.row]; rfl, by rw [cell_of_rowAt h.book]; rfl, by rw [cell_of_rowAt h.book]; rfl, by rw [cell_of_rowAt h.book]; rfl, by rw [cell_of_rowAt h.book]; rfl, frozen_of_rowAt h.book, rowAt_lt h.row, h.lt⟩
theorem lose_ok {w : World} {g q k : Nat} {room s c l d : Int} {ps : List (List UInt8)} (h : NT X w g q room ps s c l d) (hk : k < ps.length) (hlen : ps.length ≤ 1000000) (hl : 0 ≤ l ∧ l ≤ 1000000) (hX : ∀ b, w.heap.size ≤ b → X b) :
    Calls Tryz.prog 13 #[.pointer (some ⟨g, 0, none⟩), .int .i64 (k : Int)] w fun e w' => e = .returned (.int .i64 0) ∧ NT X w' g q room (without ps k) s c (l + 1) d ∧ Two g q w w' := by
  have H := Lib.hid h
  have HX := Lib.hid hX
  clear h hX
  have hw : IntKind.i64.wrap (l + 1) = l + 1 := IntWalk.i64_in _ (by omega)
  go_enter Tryz.func13, Tryz.ntmps13
  go_wp2_with fail
  refine (pull_ok H.out hk hlen HX.out).mono ?_
  rintro e w1 ⟨A, ca, rfl, _, _, _, hn, ht⟩
  obtain ⟨k0, _, _, k2, _, kf, _, _⟩ := hn.cells
  have HN := Lib.hid hn
  have HT := Lib.hid ht
  clear hn ht
  go_wp2_with fail
  go_ret
  obtain ⟨e1, e2⟩ := HN.out.book (i := 2) (v := .int .i64 (l + 1)) rfl
  exact ⟨rfl, e1, HT.out.trans e2⟩
theorem take_ok (m : Msg) {w : World} {g q k : Nat} {room s c l d : Int} {ps : List (List UInt8)} (h : NT X w g q room ps s c l d) (hk : k < ps.length) (hlen : ps.length ≤ 1000000) (hc : 0 ≤ c ∧ c ≤ 1000000)
    (hD : ∀ w' A ca, IsBy w' A (ps.getD k []) → (A = none → ca = 0) → Calls Tryz.prog 23 #[.slice A (ps.getD k []).length ca] w' fun e w2 => e = .returned (.tuple #[.agg m.cells, .int .i64 0]) ∧ Below w'.heap.size w' w2) (hX : ∀ b, w.heap.size ≤ b → X b) :
    Calls Tryz.prog 9 #[.pointer (some ⟨g, 0, none⟩), .int .i64 (k : Int)] w fun e w' => e = .returned (.tuple #[.agg m.cells, .int .i64 0]) ∧ NT X w' g q room (without ps k) s (c + 1) l d ∧ Two g q w w' := by
  have hgw := (h.cells).2.2.2.2.2.2
  obtain ⟨B, cap, V, h⟩ := h
  have HVB : Hid (∀ i, i < ps.length → ps.getD i [] ≠ [] → ∀ x, (V i).1 = some x → x.block < w.heap.size) := Lib.hid fun i hi h0 => isBy_lt (h.by_ i hi).1 h0
  have H := Lib.hid (fun o => h.below ((Below.refl w.heap.size w).alloc (Nat.le_refl _) o))
  have HD := Lib.hid hD
  clear h hD
  obtain ⟨pk, hpk⟩ : ∃ pk, ps.getD k [] = pk := ⟨_, rfl⟩
  rw [hpk] at HD
  have hw : IntKind.i64.wrap (c + 1) = c + 1 := IntWalk.i64_in _ (by omega)
  have HP := Lib.hid (fun W H (hw : w.heap.size ≤ W.heap.size) => (pull_okv (w := W) (X := X) (g := g) (q := q) (k := k) (room := room) (s := s) (c := c) (l := l) (d := d) (B := B) (cap := cap) (V := V) (ps := ps) H hk hlen (fun b hb => hX b (Nat.le_trans hw hb))))
  go_enter Tryz.func9, Tryz.ntmps9
  go_wp2_with fail
  refine (HP.out _ (H.out _) (by simp)).mono ?_
  rintro e w1 ⟨A, ca, rfl, hI, hN, hO, ⟨nb, C, hn, hnb⟩, ht⟩
  rw [hpk] at hI
  have hnbw : w.heap.size < nb := by simp at hnb; omega
  have hnt : NT X w1 g q room (without ps k) s c l d := ⟨_, _, _, hn⟩
  obtain ⟨k0, _, k1, _, _, kf, hgl, hqg⟩ := hnt.cells
  clear hnt hnb
  have r0 : rowAt w1 w.heap.size = some (#[.int .i64 0, .int .i64 0, .int .i64 0, .int .i64 0, .int .i64 0, .bool false, .slice none 0 0, .int .i64 0, .string ByteArray.empty, .string ByteArray.empty, .int .i64 0, .int .i64 0], 34) := ht.row (by omega) (by omega) (rowAt_alloc_at _ _ _ _ rfl)
  have HT : Hid (Two g q w w1) := Lib.hid ((Two.of_below (below_allocS (Below.refl _ _) _) (by omega)).trans ht)
  have HN := Lib.hid hn
  have HI := Lib.hid hI
  have HR := Lib.hid r0
  rw [hpk]
  clear hn hI ht HP H r0 hpk
  obtain ⟨e1, e2⟩ := HN.out.bump (i := 1) (v := .int .i64 (c + 1)) rfl
  have HI2 := Lib.hid (e2.by_ HI.out hO)
  have HR2 : Hid (rowAt (w1.setCell ⟨q, 1, none⟩ (.int .i64 (c + 1))) w.heap.size = _) := Lib.hid (e2.row (by omega) (by omega) HR.out)
  have HN2 := Lib.hid e1
  have HT2 := Lib.hid (HT.out.trans e2)
  clear e1 e2 HI HR HN HT
  go_wp2_with fail
  refine (HD.out _ A ca HI2.out hN).mono ?_
  rintro e w2 ⟨rfl, hb⟩
  have u3 := rowKeep hb HR2.out
  have HN3 := Lib.hid (HN2.out.below hb)
  have HT3 : Hid (Two g q w w2) := Lib.hid (HT2.out.trans (Two.of_below hb (by have := (show NT X _ g q room (without ps k) s (c + 1) l d from ⟨_, _, _, HN2.out⟩).cells.2.2.2.2.2.2; omega)))
  clear hb HN2 HT2 HI2 HR2 HD k0 k1 kf
  unfold Msg.cells
  have z0 : w2.cell? ⟨w.heap.size, 0, none⟩ = some (.int .i64 0) := by rw [cell_of_rowAt u3]; rfl
  have z1 : w2.cell? ⟨w.heap.size, 1, none⟩ = some (.int .i64 0) := by rw [cell_of_rowAt u3]; rfl
  have z2 : w2.cell? ⟨w.heap.size, 2, none⟩ = some (.int .i64 0) := by rw [cell_of_rowAt u3]; rfl
  have z3 : w2.cell? ⟨w.heap.size, 3, none⟩ = some (.int .i64 0) := by rw [cell_of_rowAt u3]; rfl
  have z4 : w2.cell? ⟨w.heap.size, 4, none⟩ = some (.int .i64 0) := by rw [cell_of_rowAt u3]; rfl
  have z5 : w2.cell? ⟨w.heap.size, 5, none⟩ = some (.bool false) := by rw [cell_of_rowAt u3]; rfl
  have z6 : w2.cell? ⟨w.heap.size, 6, none⟩ = some (.slice none 0 0) := by rw [cell_of_rowAt u3]; rfl
  have z7 : w2.cell? ⟨w.heap.size, 7, none⟩ = some (.int .i64 0) := by rw [cell_of_rowAt u3]; rfl
  have z8 : w2.cell? ⟨w.heap.size, 8, none⟩ = some (.string ByteArray.empty) := by rw [cell_of_rowAt u3]; rfl
  have z9 : w2.cell? ⟨w.heap.size, 9, none⟩ = some (.string ByteArray.empty) := by rw [cell_of_rowAt u3]; rfl
  have z10 : w2.cell? ⟨w.heap.size, 10, none⟩ = some (.int .i64 0) := by rw [cell_of_rowAt u3]; rfl
  have z11 : w2.cell? ⟨w.heap.size, 11, none⟩ = some (.int .i64 0) := by rw [cell_of_rowAt u3]; rfl
  have zz := frozen_of_rowAt u3
  go_wp2_with fail
  have hfin := set12 (v0 := .int .i64 m.kind) (v1 := .int .i64 m.frm) (v2 := .int .i64 m.to) (v3 := .int .i64 m.ver) (v4 := .int .i64 m.num) (v5 := .bool m.yes) (v6 := .slice m.fA m.fn m.fc) (v7 := .int .i64 m.pk) (v8 := .string (strT m.pn)) (v9 := .string (strT m.po)) (v10 := .int .i64 m.pa) (v11 := .int .i64 m.pb) u3
  have hl := load_msg_row hfin rfl
  refine ret_ct (u := .int .i64 0) (by rfl) (by with_unfolding_all rfl) (by with_unfolding_all rfl) (by rfl) hl ?_
  have hON : Only w.heap.size w2 ((((((((((((w2.setCell ⟨w.heap.size, 0, none⟩ (.int .i64 m.kind)).setCell ⟨w.heap.size, 1, none⟩ (.int .i64 m.frm)).setCell ⟨w.heap.size, 2, none⟩ (.int .i64 m.to)).setCell ⟨w.heap.size, 3, none⟩ (.int .i64 m.ver)).setCell ⟨w.heap.size, 4, none⟩ (.int .i64 m.num)).setCell ⟨w.heap.size, 5, none⟩ (.bool m.yes)).setCell ⟨w.heap.size, 6, none⟩ (.slice m.fA m.fn m.fc)).setCell ⟨w.heap.size, 7, none⟩ (.int .i64 m.pk)).setCell ⟨w.heap.size, 8, none⟩ (.string (strT m.pn))).setCell ⟨w.heap.size, 9, none⟩ (.string (strT m.po))).setCell ⟨w.heap.size, 10, none⟩ (.int .i64 m.pa)).setCell ⟨w.heap.size, 11, none⟩ (.int .i64 m.pb)) := ((((((((((((Only.refl _ _).trans (Only.setCell _)).trans (Only.setCell _)).trans (Only.setCell _)).trans (Only.setCell _)).trans (Only.setCell _)).trans (Only.setCell _)).trans (Only.setCell _)).trans (Only.setCell _)).trans (Only.setCell _)).trans (Only.setCell _)).trans (Only.setCell _)).trans (Only.setCell _)
  refine ⟨rfl, ⟨_, _, _, HN3.out.only hON (by omega) (by omega) (fun x hx => ?_) (fun i hi h0 => ?_)⟩, Nat.le_trans HT3.out.1 hON.1, HT3.out.2.1.trans (hON.2.1.mono (by omega)), fun i h1 h2 h3 => (hON.2.2 i (by omega) (by have := HT3.out.1; omega)).trans (HT3.out.2.2 i h1 h2 h3)⟩
  · injection hx with hx
    subst hx
    show nb ≠ w.heap.size
    omega
  · rw [without_len hk] at hi
    rw [without_get hk] at h0
    by_cases hl : i < k
    · simp only [if_pos hl] at h0 ⊢
      exact fun x hx => Nat.ne_of_lt (HVB.out i (by omega) h0 x hx)
    · simp only [if_neg hl] at h0 ⊢
      exact fun x hx => Nat.ne_of_lt (HVB.out (i + 1) (by omega) h0 x hx)
theorem twice_ok {w : World} {g q k : Nat} {room s c l d : Int} {ps : List (List UInt8)} (h : NT X w g q room ps s c l d) (hk : k < ps.length) (hroom : ¬ (ps.length : Int) = room) (hlen : ps.length ≤ 1000000) (hd : 0 ≤ d ∧ d ≤ 1000000) (hX : ∀ b, w.heap.size ≤ b → X b) :
    Calls Tryz.prog 15 #[.pointer (some ⟨g, 0, none⟩), .int .i64 (k : Int)] w fun e w' => e = .returned (.int .i64 0) ∧ NT X w' g q room (ps ++ [ps.getD k []]) s c l (d + 1) ∧ Two g q w w' := by
  obtain ⟨_, _, _, _, _, _, hgl, hqg⟩ := h.cells
  obtain ⟨B, cap, V, hv⟩ := h
  obtain ⟨b1, o1, rfl, hcell⟩ := hv.cell k hk
  have hby := hv.by_ k hk
  have g1 : decide ((k : Int) < 0) = false := decide_eq_false (by omega)
  have g2 : decide ((ps.length : Int) ≤ (k : Int)) = false := decide_eq_false (by omega)
  have hw : IntKind.i64.wrap (d + 1) = d + 1 := IntWalk.i64_in _ (by omega)
  have k1 : w.cell? ⟨g, 1, none⟩ = some (.int .i64 room) := by rw [cell_of_rowAt hv.row]; rfl
  have k2 : w.cell? ⟨g, 2, none⟩ = some (.slice (some ⟨b1, o1, none⟩) ps.length cap) := by rw [cell_of_rowAt hv.row]; rfl
  obtain ⟨pk, hp⟩ : ∃ pk, ps.getD k [] = pk := ⟨_, rfl⟩
  rw [hp] at hby hcell ⊢
  have HV := Lib.hid hv
  have HY := Lib.hid hby
  have HC := Lib.hid hcell
  have hsv : ps.getD k [] ≠ [] → ∀ x, (V k).1 = some x → X x.block := hv.sepV k hk
  rw [hp] at hsv
  have HSV := Lib.hid hsv
  have HX := Lib.hid hX
  clear hv hby hcell hsv hX
  go_enter Tryz.func15, Tryz.ntmps15
  go_upto_region 5 with fail
  refine region_quiet (by kernel_rfl) (by kernel_rfl) ?_
  repeat (go_big_quiet_step (fail))
  refine wpQuiet_nil ?_
  intro w2 hb
  have HV2 := Lib.hid (HV.out.below hb)
  have HI2 := Lib.hid (HY.out.1.below hb)
  have HB2 := Lib.hid hb
  have c2 : w2.cell? ⟨b1, o1 + k, none⟩ = some (.slice (V k).1 pk.length (V k).2) := (hb.cell (World.block_lt_of_cell? _ _ HC.out)).trans HC.out
  have k3 : w2.cell? ⟨g, 2, none⟩ = some (.slice (some ⟨b1, o1, none⟩) ps.length cap) := by rw [cell_of_rowAt HV2.out.row]; rfl
  have HY2 := Lib.hid HY.out.2
  clear hb k1 k2 HV HY HC hp
  go_wp2_with fail
  refine (push_any g q room s c l d ps _ ⟨_, _, _, HV2.out⟩ (V k).1 (V k).2 pk HI2.out HY2.out.1 HY2.out.2 hlen (fun b hb => HX.out b (Nat.le_trans HB2.out.size hb)) (fun x hx hb => HSV.out hb x hx)).mono ?_
  rintro e w3 ⟨rfl, hn, ht⟩
  obtain ⟨k0, _, _, _, kd, kf, _, _⟩ := hn.cells
  have HN := Lib.hid hn
  have HT : Hid (Two g q w w3) := Lib.hid ((Two.of_below HB2.out (by omega)).trans ht)
  clear hn ht c2 k3 HV2 HI2 HY2 HB2
  go_wp2_with fail
  go_ret
  obtain ⟨e1, e2⟩ := HN.out.book (i := 3) (v := .int .i64 (d + 1)) rfl
  exact ⟨rfl, e1, HT.out.trans e2⟩
end Go.Proofs.YtlocoieknabiaaaGreat

/-
  Layer 15 (net): Take, Lose, Twice.
-/
namespace Go.Proofs.YtlocoieknabiaaaGreat
set_option maxRecDepth 20000
open Go.RowKit
set_option linter.unusedSimpArgs false
attribute [local go_sem] rowAt_setRow rowAt_setCell Later.cell Later.frozen
variable {X : Nat → Prop}
set_option maxHeartbeats 4000000 in
theorem take_re (m : Msg) {w : World} {g q k : Nat} {room s c l d : Int} {ps : List (List UInt8)} (h : NT X w g q room ps s c l d) (hk : k < ps.length) (hlen : ps.length ≤ 1000000) (hc : 0 ≤ c ∧ c ≤ 1000000)
    (hr : rightM m = true) (hp : ps.getD k [] = msgW m) (hX : ∀ b, w.heap.size ≤ b → X b) :
    Calls Tryz.prog 9 #[.pointer (some ⟨g, 0, none⟩), .int .i64 (k : Int)] w fun e w' => ∃ A' c' H, e = .returned (.tuple #[.agg (reM m A' c' H).cells, .int .i64 0]) ∧ RF w' w.heap.size m.fl m.fn A' c' H ∧ NT X w' g q room (without ps k) s (c + 1) l d ∧ Two g q w w' := by
  have hgw := (h.cells).2.2.2.2.2.2
  obtain ⟨B, cap, V, h⟩ := h
  have HVB : Hid (∀ i, i < ps.length → ps.getD i [] ≠ [] → ∀ x, (V i).1 = some x → x.block < w.heap.size) := Lib.hid fun i hi h0 => isBy_lt (h.by_ i hi).1 h0
  have H := Lib.hid (fun o => h.below ((Below.refl w.heap.size w).alloc (Nat.le_refl _) o))
  have HD : Hid (∀ w' A ca, IsBy w' A (ps.getD k []) → (A = none → ca = 0) → Calls Tryz.prog 23 #[.slice A (ps.getD k []).length ca] w' (MDec w' false [] m)) := Lib.hid fun w' A ca h1 h2 =>
    mdecode_ok m A ca _ [] false w' hr h1 h2 (by rw [hp]; exact Nat.le_trans (msgW_len hr) (by decide)) (by show ps.getD k [] = msgW m ++ []; rw [hp, List.append_nil])
  clear h hp
  obtain ⟨pk, hpk⟩ : ∃ pk, ps.getD k [] = pk := ⟨_, rfl⟩
  rw [hpk] at HD
  have hw : IntKind.i64.wrap (c + 1) = c + 1 := IntWalk.i64_in _ (by omega)
  have HP := Lib.hid (fun W H (hw : w.heap.size ≤ W.heap.size) => (pull_okv (w := W) (X := X) (g := g) (q := q) (k := k) (room := room) (s := s) (c := c) (l := l) (d := d) (B := B) (cap := cap) (V := V) (ps := ps) H hk hlen (fun b hb => hX b (Nat.le_trans hw hb))))
  go_enter Tryz.func9, Tryz.ntmps9
  go_wp2_with fail
  refine (HP.out _ (H.out _) (by simp)).mono ?_
  rintro e w1 ⟨A, ca, rfl, hI, hN, hO, ⟨nb, C, hn, hnb⟩, ht⟩
  rw [hpk] at hI
  have hsz : w.heap.size < w1.heap.size := by have := ht.1; simp at this; omega
  have hnbw : w.heap.size < nb := by simp at hnb; omega
  have hnt : NT X w1 g q room (without ps k) s c l d := ⟨_, _, _, hn⟩
  obtain ⟨k0, _, k1, _, _, kf, hgl, hqg⟩ := hnt.cells
  clear hnt hnb
  have r0 : rowAt w1 w.heap.size = some (#[.int .i64 0, .int .i64 0, .int .i64 0, .int .i64 0, .int .i64 0, .bool false, .slice none 0 0, .int .i64 0, .string ByteArray.empty, .string ByteArray.empty, .int .i64 0, .int .i64 0], 34) := ht.row (by omega) (by omega) (rowAt_alloc_at _ _ _ _ rfl)
  have HT : Hid (Two g q w w1) := Lib.hid ((Two.of_below (below_allocS (Below.refl _ _) _) (by omega)).trans ht)
  have HN := Lib.hid hn
  have HI := Lib.hid hI
  have HR := Lib.hid r0
  rw [hpk]
  clear hn hI ht HP H r0 hpk
  obtain ⟨e1, e2⟩ := HN.out.bump (i := 1) (v := .int .i64 (c + 1)) rfl
  have HI2 := Lib.hid (e2.by_ HI.out hO)
  have HR2 : Hid (rowAt (w1.setCell ⟨q, 1, none⟩ (.int .i64 (c + 1))) w.heap.size = _) := Lib.hid (e2.row (by omega) (by omega) HR.out)
  have HN2 := Lib.hid e1
  have HT2 := Lib.hid (HT.out.trans e2)
  clear e1 e2 HI HR HN HT
  go_wp2_with fail
  refine (HD.out _ A ca HI2.out hN).mono ?_
  rintro e w2 ⟨hb, -, -, hx⟩
  obtain ⟨A', c', H', rfl, hrf⟩ := hx rfl rfl
  have HRF := Lib.hid hrf
  have u3 := rowKeep hb HR2.out
  have HN3 := Lib.hid (HN2.out.below hb)
  have HT3 : Hid (Two g q w w2) := Lib.hid (HT2.out.trans (Two.of_below hb (by have := (show NT X _ g q room (without ps k) s (c + 1) l d from ⟨_, _, _, HN2.out⟩).cells.2.2.2.2.2.2; omega)))
  clear hb HN2 HI2 HR2 HD k0 k1 kf
  clear hx hrf
  unfold reM Msg.cells
  dsimp only
  have z0 : w2.cell? ⟨w.heap.size, 0, none⟩ = some (.int .i64 0) := by rw [cell_of_rowAt u3]; rfl
  have z1 : w2.cell? ⟨w.heap.size, 1, none⟩ = some (.int .i64 0) := by rw [cell_of_rowAt u3]; rfl
  have z2 : w2.cell? ⟨w.heap.size, 2, none⟩ = some (.int .i64 0) := by rw [cell_of_rowAt u3]; rfl
  have z3 : w2.cell? ⟨w.heap.size, 3, none⟩ = some (.int .i64 0) := by rw [cell_of_rowAt u3]; rfl
  have z4 : w2.cell? ⟨w.heap.size, 4, none⟩ = some (.int .i64 0) := by rw [cell_of_rowAt u3]; rfl
  have z5 : w2.cell? ⟨w.heap.size, 5, none⟩ = some (.bool false) := by rw [cell_of_rowAt u3]; rfl
  have z6 : w2.cell? ⟨w.heap.size, 6, none⟩ = some (.slice none 0 0) := by rw [cell_of_rowAt u3]; rfl
  have z7 : w2.cell? ⟨w.heap.size, 7, none⟩ = some (.int .i64 0) := by rw [cell_of_rowAt u3]; rfl
  have z8 : w2.cell? ⟨w.heap.size, 8, none⟩ = some (.string ByteArray.empty) := by rw [cell_of_rowAt u3]; rfl
  have z9 : w2.cell? ⟨w.heap.size, 9, none⟩ = some (.string ByteArray.empty) := by rw [cell_of_rowAt u3]; rfl
  have z10 : w2.cell? ⟨w.heap.size, 10, none⟩ = some (.int .i64 0) := by rw [cell_of_rowAt u3]; rfl
  have z11 : w2.cell? ⟨w.heap.size, 11, none⟩ = some (.int .i64 0) := by rw [cell_of_rowAt u3]; rfl
  have zz := frozen_of_rowAt u3
  go_wp2_with fail
  have hfin := set12 (v0 := .int .i64 m.kind) (v1 := .int .i64 m.frm) (v2 := .int .i64 m.to) (v3 := .int .i64 m.ver) (v4 := .int .i64 m.num) (v5 := .bool m.yes) (v6 := .slice A' m.fn c') (v7 := .int .i64 m.pk) (v8 := .string (strT m.pn)) (v9 := .string (strT m.po)) (v10 := .int .i64 m.pa) (v11 := .int .i64 m.pb) u3
  have hl := load_msg_row hfin rfl
  refine ret_ct (u := .int .i64 0) (by rfl) (by with_unfolding_all rfl) (by with_unfolding_all rfl) (by rfl) hl ?_
  have hON : Only w.heap.size w2 ((((((((((((w2.setCell ⟨w.heap.size, 0, none⟩ (.int .i64 m.kind)).setCell ⟨w.heap.size, 1, none⟩ (.int .i64 m.frm)).setCell ⟨w.heap.size, 2, none⟩ (.int .i64 m.to)).setCell ⟨w.heap.size, 3, none⟩ (.int .i64 m.ver)).setCell ⟨w.heap.size, 4, none⟩ (.int .i64 m.num)).setCell ⟨w.heap.size, 5, none⟩ (.bool m.yes)).setCell ⟨w.heap.size, 6, none⟩ (.slice A' m.fn c')).setCell ⟨w.heap.size, 7, none⟩ (.int .i64 m.pk)).setCell ⟨w.heap.size, 8, none⟩ (.string (strT m.pn))).setCell ⟨w.heap.size, 9, none⟩ (.string (strT m.po))).setCell ⟨w.heap.size, 10, none⟩ (.int .i64 m.pa)).setCell ⟨w.heap.size, 11, none⟩ (.int .i64 m.pb)) := ((((((((((((Only.refl _ _).trans (Only.setCell _)).trans (Only.setCell _)).trans (Only.setCell _)).trans (Only.setCell _)).trans (Only.setCell _)).trans (Only.setCell _)).trans (Only.setCell _)).trans (Only.setCell _)).trans (Only.setCell _)).trans (Only.setCell _)).trans (Only.setCell _)).trans (Only.setCell _)
  have hrf : RF _ w.heap.size m.fl m.fn A' c' H' := (HRF.out.keep (KeepH.only hON u3 (by decide)) (own_keep HRF.out.own hON (by simpa using hsz))).mono (Nat.le_of_lt (by simpa using hsz))
  refine ⟨A', c', H', rfl, hrf, ⟨_, _, _, HN3.out.only hON (by omega) (by omega) (fun x hx => ?_) (fun i hi h0 => ?_)⟩, Nat.le_trans HT3.out.1 hON.1, HT3.out.2.1.trans (hON.2.1.mono (by omega)), fun i h1 h2 h3 => (hON.2.2 i (by omega) (by have := HT3.out.1; omega)).trans (HT3.out.2.2 i h1 h2 h3)⟩
  · injection hx with hx
    subst hx
    show nb ≠ w.heap.size
    omega
  · rw [without_len hk] at hi
    rw [without_get hk] at h0
    by_cases hl : i < k
    · simp only [if_pos hl] at h0 ⊢
      exact fun x hx => Nat.ne_of_lt (HVB.out i (by omega) h0 x hx)
    · simp only [if_neg hl] at h0 ⊢
      exact fun x hx => Nat.ne_of_lt (HVB.out (i + 1) (by omega) h0 x hx)
end Go.Proofs.YtlocoieknabiaaaGreat
