/-
  Layer 15 (net): a net and what it holds.
-/
import Derived.Test.YtlocoieknabiaaaZGJ
import Derived.Test.YtlocoieknabiaaaZGA
import Derived.Test.YtlocoieknabiaaaZGD
import Derived.Deep.AppendSrc
namespace Go.Proofs.Ytlocoieknabiaaa
set_option maxRecDepth 20000
open Go.RowKit
set_option linter.unusedSimpArgs false
attribute [local go_sem] rowAt_setRow rowAt_setCell Later.cell Later.frozen
/-- Block g is a net, with its book in block q. -/
structure NTv (X : Nat → Prop) (w : World) (g q : Nat) (room : Int) (A : Option Addr) (cap : Nat) (V : Nat → Option Addr × Nat) (ps : List (List UInt8)) (s c l d : Int) : Prop where
  row : rowAt w g = some (#[.pointer (some ⟨q, 0, none⟩), .int .i64 room, .slice A ps.length cap], 50)
  book : rowAt w q = some (#[.int .i64 s, .int .i64 c, .int .i64 l, .int .i64 d], 47)
  lt : q < g
  le : ps.length ≤ cap
  nil : A = none → cap = 0
  big : cap ≤ 9223372036854775807
  off : ∀ x, A = some x → x.block ≠ g ∧ x.block ≠ q
  cell : ∀ i, i < ps.length → ∃ b o, A = some ⟨b, o, none⟩ ∧ w.cell? ⟨b, o + i, none⟩ = some (.slice (V i).1 (ps.getD i []).length (V i).2)
  by_ : ∀ i, i < ps.length → IsBy w (V i).1 (ps.getD i []) ∧ ((V i).1 = none → (V i).2 = 0) ∧ (∀ x, (V i).1 = some x → x.block ≠ g ∧ x.block ≠ q)
  sepA : ∀ x, A = some x → ps ≠ [] → X x.block
  sepV : ∀ i, i < ps.length → ps.getD i [] ≠ [] → ∀ x, (V i).1 = some x → X x.block
def NT (X : Nat → Prop) (w : World) (g q : Nat) (room : Int) (ps : List (List UInt8)) (s c l d : Int) : Prop := ∃ A cap V, NTv X w g q room A cap V ps s c l d
variable {X : Nat → Prop}
/-- The texts stay, whatever the net's own two blocks hold then. -/
theorem NTv.keep {w w' : World} {g q : Nat} {room room' s c l d s' c' l' d' : Int} {A : Option Addr} {cap : Nat} {V : Nat → Option Addr × Nat} {ps : List (List UInt8)} (h : NTv X w g q room A cap V ps s c l d) (ht : Two g q w w')
    (hr : rowAt w' g = some (#[.pointer (some ⟨q, 0, none⟩), .int .i64 room', .slice A ps.length cap], 50)) (hb : rowAt w' q = some (#[.int .i64 s', .int .i64 c', .int .i64 l', .int .i64 d'], 47)) : NTv X w' g q room' A cap V ps s' c' l' d' :=
  ⟨hr, hb, h.lt, h.le, h.nil, h.big, h.off, fun i hi => by
    obtain ⟨b, o, h1, h2⟩ := h.cell i hi
    exact ⟨b, o, h1, ht.cell (h.off _ h1).1 (h.off _ h1).2 h2⟩, fun i hi => ⟨ht.by_ (h.by_ i hi).1 (h.by_ i hi).2.2, (h.by_ i hi).2⟩, h.sepA, h.sepV⟩
theorem NTv.below {w w' : World} {g q : Nat} {room s c l d : Int} {A : Option Addr} {cap : Nat} {V : Nat → Option Addr × Nat} {ps : List (List UInt8)} (h : NTv X w g q room A cap V ps s c l d) (hb : Below w.heap.size w w') : NTv X w' g q room A cap V ps s c l d :=
  h.keep (Two.of_below hb (by have := rowAt_lt h.book; omega)) (rowKeep hb h.row) (rowKeep hb h.book)
theorem NT.below {w w' : World} {g q : Nat} {room s c l d : Int} {ps : List (List UInt8)} (h : NT X w g q room ps s c l d) (hb : Below w.heap.size w w') : NT X w' g q room ps s c l d := by
  obtain ⟨A, cap, V, h⟩ := h
  exact ⟨A, cap, V, h.below hb⟩
theorem info_txt : ∃ i, Try.prog.info? 52 = some i ∧ i.zero = some (.slice none 0 0) ∧ i.size = 1 ∧ i.bytes = 24 :=
  info_parts (show (Try.prog.info? 52).map (fun i => (i.zero, i.size, i.bytes)) = some (some (.slice none 0 0), 1, 24) by kernel_rfl)
def txC (V : Nat → Option Addr × Nat) (ps : List (List UInt8)) : List Value := (List.range ps.length).map fun i => .slice (V i).1 (ps.getD i []).length (V i).2
theorem txC_len (V : Nat → Option Addr × Nat) (ps : List (List UInt8)) : (txC V ps).length = ps.length := by simp [txC]
theorem txC_get (V : Nat → Option Addr × Nat) (ps : List (List UInt8)) {i : Nat} (hi : i < ps.length) : (txC V ps)[i]? = some (.slice (V i).1 (ps.getD i []).length (V i).2) := by simp [txC, hi]
/-- append of one text to all that is there: a new row. -/
theorem wp_push {o : Oper} {a : Act} {w : World} {K : Act → World → Prop} {Q : Exit → Act → World → Prop} (s x : Operand)
    (ho : o.op = .call { callee := .builtin .append, args := #[s, x], argTypes := #[48, 48] }) {g q : Nat} {room sN cN lN dN : Int} {B : Option Addr} {cap : Nat} {V : Nat → Option Addr × Nat} {ps : List (List UInt8)} (h : NTv X w g q room B cap V ps sN cN lN dN)
    (hs : a.eval s = .slice B ps.length ps.length) {r : Nat} (hx : a.eval x = .slice (some ⟨r, 0, none⟩) 1 1) {A : Option Addr} {b : List UInt8} {ca : Nat} (hr : rowAt w r = some (#[.slice A b.length ca], 52)) (hlen : ps.length ≤ 1000000)
    (hK : ∀ C, ps.length + 1 ≤ C → C ≤ 9223372036854775807 → ∀ w', Below w.heap.size w w' → (∀ i, i < ps.length → w'.cell? ⟨w.heap.size, i, none⟩ = some (.slice (V i).1 (ps.getD i []).length (V i).2)) → w'.cell? ⟨w.heap.size, ps.length, none⟩ = some (.slice A b.length ca) → w.heap.size < w'.heap.size →
      K (a.put o.dst (.slice (some ⟨w.heap.size, 0, none⟩) (ps.length + 1) C)) w') : o.wp Try.prog a w K Q := by
  obtain ⟨i0, hi, hz0, hz1, hz2⟩ := info_txt
  have hold : (Builtin.firstCells i0.size ps.length (.slice B ps.length ps.length)).run Try.prog w.drew = .ok (txC V ps).toArray w.drew := by
    rw [hz1]
    cases B with
    | none =>
      have : ps = [] := List.eq_nil_of_length_eq_zero (by have := h.le; have := h.nil rfl; omega)
      subst this
      exact run_firstCells_none w.drew 1 0 0 0
    | some ad =>
      refine run_firstCells_some w.drew 1 ps.length ad ps.length ps.length (txC V ps) (by rw [txC_len, Nat.mul_one]) fun j v hj => ?_
      have hlt : j < ps.length := by rw [← txC_len V ps]; exact (List.getElem?_eq_some_iff.1 hj).1
      obtain ⟨b1, o1, h1, h2⟩ := h.cell j hlt
      injection h1 with h1
      subst h1
      rw [txC_get V ps hlt] at hj
      rw [Addr.add_lit, ← hj]
      exact h2
  have hsrc : Src Try.prog i0.size 48 (.slice (some ⟨r, 0, none⟩) 1 1) 1 [.slice A b.length ca] w := by
    rw [hz1]
    refine Src.ofSlice w Try.underlying48 ⟨r, 0, none⟩ 1 1 [.slice A b.length ca] rfl (fun j u hj => ?_) (fun u hu => ?_)
    · match j, hj with
      | 0, hj =>
        rw [Addr.add_lit, cell_of_rowAt hr]
        exact hj
      | j + 1, hj => simp at hj
    · rw [List.mem_singleton.1 hu]; rfl
  have hcap : Builtin.nextslicecap (ps.length + 1) ps.length * i0.bytes ≤ 281474976710656 := by
    have := nextslicecap_le (need := ps.length + 1) (old := ps.length) (by omega)
    rw [hz2]
    omega
  have hrun := run_append_grow_src w 48 48 o.type 52 i0 (.slice none 0 0) Try.underlying48 hi hz0 B ps.length ps.length (txC V ps) hold _ 1 _ hsrc (by omega) (by omega) hcap
  have hC1 := grownCap_ge w (ps.length + 1) ps.length 52
  have hC2 := grownCap_le_maxLen w (ps.length + 1) ps.length 52 (by unfold maxLen; omega)
  generalize grownCap w (ps.length + 1) ps.length 52 = C at *
  unfold Oper.wp execOp
  simp only [ho, resolve, invoke, builtin, Sem.run_bind, Sem.run_pure, Result.andThen_ok, List.map_toArray, List.map_cons, List.map_nil, hs, hx, hrun]
  refine hK C hC1 (by unfold maxLen at hC2; omega) _ ((Below.refl _ _).drew.alloc (by simp) _) (fun i hi2 => ?_) ?_ (by simp)
  · rw [cell_of_rowAt (rowAt_alloc_at _ _ _ _ (by simp)), Array.getElem?_append_left (by simp [txC_len]; omega), List.getElem?_toArray, List.getElem?_append_left (by rw [txC_len]; exact hi2)]
    exact txC_get V ps hi2
  · rw [cell_of_rowAt (rowAt_alloc_at _ _ _ _ (by simp)), Array.getElem?_append_left (by simp [txC_len]), List.getElem?_toArray, List.getElem?_append_right (by rw [txC_len]; exact Nat.le_refl _), txC_len, Nat.sub_self]
    rfl
theorem push_end {w w1 : World} {g q D C : Nat} {room s c l d : Int} {B : Option Addr} {cap : Nat} {V : Nat → Option Addr × Nat} {ps : List (List UInt8)} {A : Option Addr} {ca : Nat} {b : List UInt8} (h : NTv X w1 g q room B cap V ps s c l d) (hI : IsBy w1 A b) (hb : Below w.heap.size w w1) (hg : g < w.heap.size)
    (hN : A = none → ca = 0) (ho : ∀ x, A = some x → x.block ≠ g ∧ x.block ≠ q) (hC1 : ps.length + 1 ≤ C) (hC2 : C ≤ 9223372036854775807) (hD : w.heap.size ≤ D) (hX : ∀ b, w.heap.size ≤ b → X b) (hT : ∀ x, A = some x → b ≠ [] → X x.block)
    (hc1 : ∀ i, i < ps.length → w1.cell? ⟨D, i, none⟩ = some (.slice (V i).1 (ps.getD i []).length (V i).2)) (hc2 : w1.cell? ⟨D, ps.length, none⟩ = some (.slice A b.length ca)) :
    NT X (w1.setCell ⟨g, 2, none⟩ (.slice (some ⟨D, 0, none⟩) (ps.length + 1) C)) g q room (ps ++ [b]) s c l d ∧ Two g q w (w1.setCell ⟨g, 2, none⟩ (.slice (some ⟨D, 0, none⟩) (ps.length + 1) C)) := by
  have hlt := h.lt
  have hTw : Two g q w1 (w1.setCell ⟨g, 2, none⟩ (.slice (some ⟨D, 0, none⟩) (ps.length + 1) C)) := Two.setG (Nat.le_of_lt hlt) _
  refine ⟨⟨some ⟨D, 0, none⟩, C, fun i => if i < ps.length then V i else (A, ca), ⟨?_, ?_, hlt, by simpa using hC1, fun h => (by cases h), hC2, fun x hx => ?_, fun i hi => ?_, fun i hi => ?_, fun x hx _ => ?_, fun i hi => ?_⟩⟩, (Two.of_below hb (by omega)).trans hTw⟩
  · rw [rowAt_setCell, if_pos rfl, h.row, List.length_append]; rfl
  · rw [rowAt_setCell, if_neg (by omega)]; exact h.book
  · injection hx with hx
    subst hx
    exact ⟨by show D ≠ g; omega, by show D ≠ q; omega⟩
  · refine ⟨D, 0, rfl, ?_⟩
    rw [Nat.zero_add]
    by_cases hl : i < ps.length
    · simp only [if_pos hl]
      rw [show (ps ++ [b]).getD i [] = ps.getD i [] by simp [List.getD, List.getElem?_append_left hl]]
      exact hTw.cell (by omega) (by omega) (hc1 i hl)
    · obtain rfl : i = ps.length := by simp at hi; omega
      simp only [Nat.lt_irrefl, if_false]
      rw [show (ps ++ [b]).getD ps.length [] = b by simp [List.getD]]
      exact hTw.cell (by omega) (by omega) hc2
  · by_cases hl : i < ps.length
    · simp only [if_pos hl]
      rw [show (ps ++ [b]).getD i [] = ps.getD i [] by simp [List.getD, List.getElem?_append_left hl]]
      exact ⟨hTw.by_ (h.by_ i hl).1 (h.by_ i hl).2.2, (h.by_ i hl).2⟩
    · obtain rfl : i = ps.length := by simp at hi; omega
      simp only [Nat.lt_irrefl, if_false]
      rw [show (ps ++ [b]).getD ps.length [] = b by simp [List.getD]]
      exact ⟨hTw.by_ hI ho, hN, ho⟩
  · injection hx with hx
    subst hx
    exact hX _ hD
  · by_cases hl : i < ps.length
    · simp only [if_pos hl]
      rw [show (ps ++ [b]).getD i [] = ps.getD i [] by simp [List.getD, List.getElem?_append_left hl]]
      exact h.sepV i hl
    · obtain rfl : i = ps.length := by simp at hi; omega
      simp only [Nat.lt_irrefl, if_false]
      rw [show (ps ++ [b]).getD ps.length [] = b by simp [List.getD]]
      exact fun hb x hx => hT x hx hb
theorem push_any (g q : Nat) (room s c l d : Int) (ps : List (List UInt8)) (w : World) (h : NT X w g q room ps s c l d) (A : Option Addr) (ca : Nat) (b : List UInt8) (hI : IsBy w A b) (hN : A = none → ca = 0) (ho : ∀ x, A = some x → x.block ≠ g ∧ x.block ≠ q) (hlen : ps.length ≤ 1000000) (hX : ∀ b, w.heap.size ≤ b → X b) (hT : ∀ x, A = some x → b ≠ [] → X x.block) :
    Calls Try.prog 18 #[.pointer (some ⟨g, 0, none⟩), .slice A b.length ca] w fun e w' => e = .returned (.tuple #[]) ∧ NT X w' g q room (ps ++ [b]) s c l d ∧ Two g q w w' := by
  obtain ⟨B, cap, V, h⟩ := h
  have HX0 := Lib.hid hX
  have HT0 := Lib.hid hT
  clear hX hT
  go_enter Try.func18, Try.ntmps18
  refine wp_region_tail_drew (m := 19) (S := fun w' : World => NTv X w' g q room B cap V ps s c l d ∧ IsBy w' A b ∧ Hid (Below w.heap.size w w')) (by kernel_rfl) ⟨h.below (Below.refl _ _).drew, hI.below (Below.refl _ _).drew, Lib.hid (Below.refl _ _).drew⟩ (fun hS => ?_)
  have hgl := rowAt_lt h.row
  clear h hI
  generalize w.drew = W7 at *
  refine tail_take (i := 0) (by simp only [List.getElem?_toArray, List.getElem?_cons_succ, List.getElem?_cons_zero]; rfl) (by decide +kernel) (by decide) (by decide +kernel) (by decide +kernel) (by decide +kernel) (by exact fun _ _ _ _ h => h) hS (by rfl) ?_
  apply Exists.intro
  refine ⟨fun w' hSw => ?_, ?_⟩
  · go_simp
    with_reducible rfl
  (try simp only [act_put, act_put_none, List.set_cons_zero, List.set_cons_succ])
  refine tail_take (i := 1) (by simp only [List.getElem?_toArray, List.getElem?_cons_succ, List.getElem?_cons_zero]; rfl) (by decide +kernel) (by decide) (by decide +kernel) (by decide +kernel) (by decide +kernel) (by exact fun _ _ _ _ h => h) hS (by rfl) ?_
  apply Exists.intro
  refine ⟨fun w' hSw => ?_, ?_⟩
  · go_simp
    with_reducible rfl
  (try simp only [act_put, act_put_none, List.set_cons_zero, List.set_cons_succ])
  refine tail_take (i := 2) (by simp only [List.getElem?_toArray, List.getElem?_cons_succ, List.getElem?_cons_zero]; rfl) (by decide +kernel) (by decide) (by decide +kernel) (by decide +kernel) (by decide +kernel) (by exact fun _ _ _ _ h => h) hS (by rfl) ?_
  apply Exists.intro
  refine ⟨fun w' hSw => ?_, ?_⟩
  · go_simp
    with_reducible rfl
  (try simp only [act_put, act_put_none, List.set_cons_zero, List.set_cons_succ])
  refine tail_take (i := 3) (by simp only [List.getElem?_toArray, List.getElem?_cons_succ, List.getElem?_cons_zero]; rfl) (by decide +kernel) (by decide) (by decide +kernel) (by decide +kernel) (by decide +kernel) (by exact fun _ _ _ _ h => h) hS (by rfl) ?_
  apply Exists.intro
  refine ⟨fun w' hSw => ?_, ?_⟩
  · go_simp
    with_reducible rfl
  (try simp only [act_put, act_put_none, List.set_cons_zero, List.set_cons_succ])
  refine tail_take (i := 4) (by simp only [List.getElem?_toArray, List.getElem?_cons_succ, List.getElem?_cons_zero]; rfl) (by decide +kernel) (by decide) (by decide +kernel) (by decide +kernel) (by decide +kernel) (by exact fun _ _ _ _ h => h) hS (by rfl) ?_
  apply Exists.intro
  refine ⟨fun w' hSw => ?_, ?_⟩
  · have q1 : w'.cell? ⟨g, 2, none⟩ = some (.slice B ps.length cap) := by rw [cell_of_rowAt hSw.1.row]; rfl
    go_simp
    with_reducible rfl
  (try simp only [act_put, act_put_none, List.set_cons_zero, List.set_cons_succ])
  refine tail_take (i := 5) (by simp only [List.getElem?_toArray, List.getElem?_cons_succ, List.getElem?_cons_zero]; rfl) (by decide +kernel) (by decide) (by decide +kernel) (by decide +kernel) (by decide +kernel) (by exact fun _ _ _ _ h => h) hS (by rfl) ?_
  apply Exists.intro
  refine ⟨fun w' hSw => ?_, ?_⟩
  · go_simp
    with_reducible rfl
  (try simp only [act_put, act_put_none, List.set_cons_zero, List.set_cons_succ])
  refine tail_take (i := 6) (by simp only [List.getElem?_toArray, List.getElem?_cons_succ, List.getElem?_cons_zero]; rfl) (by decide +kernel) (by decide) (by decide +kernel) (by decide +kernel) (by decide +kernel) (by exact fun _ _ _ _ h => h) hS (by rfl) ?_
  apply Exists.intro
  refine ⟨fun w' hSw => ?_, ?_⟩
  · go_simp
    with_reducible rfl
  (try simp only [act_put, act_put_none, List.set_cons_zero, List.set_cons_succ])
  refine tail_take (i := 7) (by simp only [List.getElem?_toArray, List.getElem?_cons_succ, List.getElem?_cons_zero]; rfl) (by decide +kernel) (by decide) (by decide +kernel) (by decide +kernel) (by decide +kernel) (by exact fun _ _ _ _ h => h) hS (by rfl) ?_
  apply Exists.intro
  refine ⟨fun w' hSw => ?_, ?_⟩
  · go_simp
    with_reducible rfl
  (try simp only [act_put, act_put_none, List.set_cons_zero, List.set_cons_succ])
  refine tail_take (i := 8) (by simp only [List.getElem?_toArray, List.getElem?_cons_succ, List.getElem?_cons_zero]; rfl) (by decide +kernel) (by decide) (by decide +kernel) (by decide +kernel) (by decide +kernel) (by exact fun _ _ _ _ h => h) hS (by rfl) ?_
  apply Exists.intro
  refine ⟨fun w' hSw => ?_, ?_⟩
  · have q1 : w'.cell? ⟨g, 2, none⟩ = some (.slice B ps.length cap) := by rw [cell_of_rowAt hSw.1.row]; rfl
    go_simp
    with_reducible rfl
  (try simp only [act_put, act_put_none, List.set_cons_zero, List.set_cons_succ])
  refine tail_take (i := 9) (by simp only [List.getElem?_toArray, List.getElem?_cons_succ, List.getElem?_cons_zero]; rfl) (by decide +kernel) (by decide) (by decide +kernel) (by decide +kernel) (by decide +kernel) (by exact fun _ _ _ _ h => h) hS (by rfl) ?_
  apply Exists.intro
  refine ⟨fun w' hSw => ?_, ?_⟩
  · go_simp
    with_reducible rfl
  (try simp only [act_put, act_put_none, List.set_cons_zero, List.set_cons_succ])
  refine tail_take (i := 10) (by simp only [List.getElem?_toArray, List.getElem?_cons_succ, List.getElem?_cons_zero]; rfl) (by decide +kernel) (by decide) (by decide +kernel) (by decide +kernel) (by decide +kernel) (by exact fun _ _ _ _ h => h) hS (by rfl) ?_
  apply Exists.intro
  refine ⟨fun w' hSw => ?_, ?_⟩
  · go_simp
    with_reducible rfl
  (try simp only [act_put, act_put_none, List.set_cons_zero, List.set_cons_succ])
  refine tail_take (i := 11) (by simp only [List.getElem?_toArray, List.getElem?_cons_succ, List.getElem?_cons_zero]; rfl) (by decide +kernel) (by decide) (by decide +kernel) (by decide +kernel) (by decide +kernel) (by exact fun _ _ _ _ h => h) hS (by rfl) ?_
  apply Exists.intro
  refine ⟨fun w' hSw => ?_, ?_⟩
  · go_simp
    with_reducible rfl
  (try simp only [act_put, act_put_none, List.set_cons_zero, List.set_cons_succ])
  refine tail_take (i := 12) (by simp only [List.getElem?_toArray, List.getElem?_cons_succ, List.getElem?_cons_zero]; rfl) (by decide +kernel) (by decide) (by decide +kernel) (by decide +kernel) (by decide +kernel) (by exact fun _ _ _ _ h => h) hS (by rfl) ?_
  apply Exists.intro
  refine ⟨fun w' hSw => ?_, ?_⟩
  · go_simp
    with_reducible rfl
  (try simp only [act_put, act_put_none, List.set_cons_zero, List.set_cons_succ])
  refine tail_take (i := 13) (by simp only [List.getElem?_toArray, List.getElem?_cons_succ, List.getElem?_cons_zero]; rfl) (by decide +kernel) (by decide) (by decide +kernel) (by decide +kernel) (by decide +kernel) (by exact fun _ _ _ _ h => h) hS (by rfl) ?_
  apply Exists.intro
  refine ⟨fun w' hSw => ?_, ?_⟩
  · have q1 : w'.cell? ⟨g, 2, none⟩ = some (.slice B ps.length cap) := by rw [cell_of_rowAt hSw.1.row]; rfl
    go_simp
    with_reducible rfl
  (try simp only [act_put, act_put_none, List.set_cons_zero, List.set_cons_succ])
  refine tail_take (i := 14) (by simp only [List.getElem?_toArray, List.getElem?_cons_succ, List.getElem?_cons_zero]; rfl) (by decide +kernel) (by decide) (by decide +kernel) (by decide +kernel) (by decide +kernel) (by exact fun _ _ _ _ h => h) hS (by rfl) ?_
  apply Exists.intro
  refine ⟨fun w' hSw => ?_, ?_⟩
  · go_simp
    with_reducible rfl
  (try simp only [act_put, act_put_none, List.set_cons_zero, List.set_cons_succ])
  refine tail_take (i := 15) (by simp only [List.getElem?_toArray, List.getElem?_cons_succ, List.getElem?_cons_zero]; rfl) (by decide +kernel) (by decide) (by decide +kernel) (by decide +kernel) (by decide +kernel) (by exact fun _ _ _ _ h => h) hS (by rfl) ?_
  apply Exists.intro
  refine ⟨fun w' hSw => ?_, ?_⟩
  · have q2 := hSw.1.le
    go_simp
    with_reducible rfl
  (try simp only [act_put, act_put_none, List.set_cons_zero, List.set_cons_succ])
  refine tail_take (i := 16) (by simp only [List.getElem?_toArray, List.getElem?_cons_succ, List.getElem?_cons_zero]; rfl) (by decide +kernel) (by decide) (by decide +kernel) (by decide +kernel) (by decide +kernel) (by exact fun _ _ _ _ h => h) hS (by rfl) ?_
  apply Exists.intro
  refine ⟨fun w' hSw => ?_, ?_⟩
  · go_simp
    with_reducible rfl
  (try simp only [act_put, act_put_none, List.set_cons_zero, List.set_cons_succ])
  refine wpAnyT_ready (rs := [17]) (by decide +kernel) (by simp) ?_
  refine AllReadyT.cons (i := 17) (by simp only [List.getElem?_toArray, List.getElem?_cons_succ, List.getElem?_cons_zero]; rfl) (fun K hK => ?_) ?_
  · go_simp
    have HX : Below W7.heap.size W7 (W7.alloc (.cells #[.slice A b.length ca] 52)) := (Below.refl _ _).alloc (Nat.le_refl _) _
    refine hK.out _ _ ⟨hS.1.below HX, hS.2.1.below HX, Lib.hid (bthen hS.2.2.out HX)⟩ (fun hS2 => ?_)
    clear hS hK K
    have hS := hS2
    clear hS2
    (try simp only [act_put, act_put_none, List.set_cons_zero, List.set_cons_succ])
    refine wpAnyT_ready (rs := [18]) (by decide +kernel) (by simp) ?_
    refine AllReadyT.cons (i := 18) (by simp only [List.getElem?_toArray, List.getElem?_cons_succ, List.getElem?_cons_zero]; rfl) (fun K hK => ?_) ?_
    · refine wp_push _ _ rfl hS.1 rfl rfl (rowAt_alloc_at _ _ _ _ rfl) hlen ?_
      intro C hC1 hC2 w' hb hc1 hc2 hsz
      have HD : Hid (w.heap.size ≤ W7.heap.size + 1) := Lib.hid (by have := hS.2.2.out.size; simpa using this)
      simp only [World.size_alloc] at hc1 hc2
      refine hK.out _ _ ⟨hS.1.below hb, hS.2.1.below hb, Lib.hid (bthen hS.2.2.out hb)⟩ (fun hS2 => ?_)
      clear hS hK K
      have hS := hS2
      clear hS2
      (try simp only [act_put, act_put_none, List.set_cons_zero, List.set_cons_succ])
      refine wpAnyT_ready (rs := [19]) (by decide +kernel) (by simp) ?_
      refine AllReadyT.last (i := 19) (by simp only [List.getElem?_toArray, List.getElem?_cons_succ, List.getElem?_cons_zero]; rfl) (by decide) (fun K hK => ?_) ?_
      · go_simp
        refine hK.out _ _ ?_
        clear hK K
        (try simp only [act_put, act_put_none, List.set_cons_zero, List.set_cons_succ])
        refine wpAnyT_ready (rs := [20]) (by decide +kernel) (by simp) ?_
        refine AllReadyT.last (i := 20) (by simp only [List.getElem?_toArray, List.getElem?_cons_succ, List.getElem?_cons_zero]; rfl) (by decide) (fun K hK => ?_) ?_
        · go_simp
          refine hK.out _ _ ?_
          clear hK K
          (try simp only [act_put, act_put_none, List.set_cons_zero, List.set_cons_succ])
          refine wpAnyT_ready (rs := [21]) (by decide +kernel) (by simp) ?_
          refine AllReadyT.last (i := 21) (by simp only [List.getElem?_toArray, List.getElem?_cons_succ, List.getElem?_cons_zero]; rfl) (by decide) (fun K hK => ?_) ?_
          · have f2 := frozen_of_rowAt hS.1.row 2
            have q1 : w'.cell? ⟨g, 2, none⟩ = some (.slice B ps.length cap) := by rw [cell_of_rowAt hS.1.row]; rfl
            go_simp
            refine hK.out _ _ ?_
            clear hK K
            (try simp only [act_put, act_put_none, List.set_cons_zero, List.set_cons_succ])
            refine wpAnyT_done (by decide +kernel) ?_ _
            go_wp2_with fail
            refine bodyPost_end (v := .tuple #[]) (by simp [results, show Try.f18.results = #[] from rfl]) rfl ?_
            exact ⟨rfl, push_end hS.1 hS.2.1 hS.2.2.out hgl hN ho hC1 hC2 HD.out HX0.out HT0.out hc1 hc2⟩
          exact AllReadyT.nil
        exact AllReadyT.nil
      exact AllReadyT.nil
    exact AllReadyT.nil
  exact AllReadyT.nil
--PUSH
end Go.Proofs.Ytlocoieknabiaaa
