/-
  Layer 3 (rights): enough, Give, Use, Move; the reference's.
-/
import Derived.Test.YtifnjgedohdjhaaRRRRFree
namespace Go.Proofs.YtifnjgedohdjhaaRRR
open Go.RowKit
set_option linter.unusedSimpArgs false
attribute [local go_sem] rowCells rowAt_drewN get_ints getE_ints set_ints size_ints rowAt_alloc rowAt_drew setRow_alloc setRow_drewN setRow_drew setCell_alloc setCell_drewN splice_upd splice_all load_vec_cut load_vecs_cut load_rights_cut store_vec store_rights eql_vec neq_vec index_vec eql_rights neq_rights index_vecs cut_ints sub_zero
attribute [local go_sem ↓] xload_vec xstore_vec xalloc_vec xeql_vec xneq_vec xindex_vec xbuild_vec0 xload_rights xstore_rights xalloc_rights xeql_rights xneq_rights xbuild_rights0 xload_vecs xindex_vecs
attribute [local go_sem] rowAt_setRow rowAt_setCell load_vec_cut_later load_rights_later Later.cell Later.frozen
attribute [local go_sem] rn_true rn_false re_true re_false eqI_self

/-- Given, Used, Moved[i] of rights. -/
def giveE (r : Nat → Int) (k n : Int) : Int := growE (sub 0 r) k n
def giveF (r : Nat → Int) (k n : Int) : Nat → Int := if giveE r k n = 0 then upd 0 (growF (sub 0 r) k n) r else fun _ => 0
def enoughE (r : Nat → Int) (k n : Int) : Int := if n < 0 then 1 else if freeE r k = 0 then (if freeN r k < n then 8 else 0) else freeE r k
def useE (r : Nat → Int) (k n : Int) : Int := if enoughE r k n = 0 then growE (sub 16 r) k n else enoughE r k n
def useF (r : Nat → Int) (k n : Int) : Nat → Int := if useE r k n = 0 then upd 16 (growF (sub 16 r) k n) r else fun _ => 0
def moveAt (i k : Int) : Bool := isK i && isK k && !decide (i = k)
def moveE (r : Nat → Int) (i k n : Int) : Int := if moveAt i k then (if enoughE r i n = 0 then growE (sub (32 + i.toNat * 16) r) k n else enoughE r i n) else 1
def moveF (r : Nat → Int) (i k n : Int) : Nat → Int := if moveE r i k n = 0 then upd (32 + i.toNat * 16) (growF (sub (32 + i.toNat * 16) r) k n) r else fun _ => 0
theorem below2 {w w1 : World} {c d : Array Value} {t u : TypeId} (h : Below ((w.alloc (.cells c t)).alloc (.cells d u)).heap.size ((w.alloc (.cells c t)).alloc (.cells d u)) w1) : Below w.heap.size w w1 :=
  (((Below.refl _ _).alloc (Nat.le_refl _) _).alloc (by simp) _).trans (h.mono (by simp; omega))
set_option maxHeartbeats 1000000 in
theorem give_any (r : Nat → Int) (k n : Int) (w : World) : Calls Try.prog 38 #[.agg (ints 288 r), .int .i64 k, .int .i64 n] w fun e w' =>
    e = .returned (.tuple #[.agg (ints 288 (giveF r k n)), .int .i64 (giveE r k n)]) ∧ Below w.heap.size w w' := by
  have c := grow_any (sub 0 r) k n
  unfold giveF giveE
  generalize growF (sub 0 r) k n = G at *
  generalize growE (sub 0 r) k n = E at *
  rw [sub_zero] at c
  have C := Lib.hid c
  clear c
  by_cases h0 : E = 0
  · subst h0
    rw [if_pos rfl]
    go_enter Try.func38, Try.ntmps38
    go_wp2_with fail
    refine (C.out _).mono ?_
    rintro e w1 ⟨rfl, hb1⟩
    have r1 : rowAt w1 w.heap.size = some (ints 288 r, 26) := rowKeep hb1 (by simp [rowAt_alloc] <;> omega)
    have r2 : rowAt w1 (w.heap.size + 1) = some (ints 288 fun _ => 0, 26) := rowKeep hb1 (by simp [rowAt_alloc] <;> omega)
    have n1 := Nat.ne_of_lt (rowAt_lt r1)
    have n2 := Nat.ne_of_lt (rowAt_lt r2)
    have HB1 := Lib.hid (below2 hb1)
    clear hb1
    go_wp2
    refine ret_ct rfl rfl rfl rfl (by simp [go_sem, *]; rfl) ?_
    refine ⟨?_, by repeat (first | exact HB1.out | refine below_allocS ?_ _ | refine below_setRow' ?_ (by omega) _)⟩
    rfl
  · rw [if_neg h0]
    have hq1 : (E == 0) = false := beq_eq_false_iff_ne.2 h0
    have hq2 : decide (E = 0) = false := decide_eq_false h0
    go_enter Try.func38, Try.ntmps38
    go_wp2_with fail
    refine (C.out _).mono ?_
    rintro e w1 ⟨rfl, hb1⟩
    have r1 : rowAt w1 w.heap.size = some (ints 288 r, 26) := rowKeep hb1 (by simp [rowAt_alloc] <;> omega)
    have r2 : rowAt w1 (w.heap.size + 1) = some (ints 288 fun _ => 0, 26) := rowKeep hb1 (by simp [rowAt_alloc] <;> omega)
    have n1 := Nat.ne_of_lt (rowAt_lt r1)
    have n2 := Nat.ne_of_lt (rowAt_lt r2)
    have HB1 := Lib.hid (below2 hb1)
    clear hb1
    go_wp2
    refine ret_ct rfl rfl rfl rfl (by simp [go_sem, *]; rfl) ?_
    refine ⟨?_, by repeat (first | exact HB1.out | refine below_allocS ?_ _ | refine below_setRow' ?_ (by omega) _)⟩
    rfl
set_option maxHeartbeats 1000000 in
theorem rgive_any (r : Nat → Int) (k n : Int) (w : World) : Calls Try.prog 42 #[.agg (ints 288 r), .int .i64 k, .int .i64 n] w fun e w' =>
    e = .returned (.tuple #[.agg (ints 288 (giveF r k n)), .int .i64 (giveE r k n)]) ∧ Below w.heap.size w w' := by
  have c := rgrow_any (sub 0 r) k n
  unfold giveF giveE
  generalize growF (sub 0 r) k n = G at *
  generalize growE (sub 0 r) k n = E at *
  rw [sub_zero] at c
  have C := Lib.hid c
  clear c
  by_cases h0 : E = 0
  · subst h0
    rw [if_pos rfl]
    go_enter Try.func42, Try.ntmps42
    go_wp2_with fail
    refine (C.out _).mono ?_
    rintro e w1 ⟨rfl, hb1⟩
    have r1 : rowAt w1 w.heap.size = some (ints 288 r, 26) := rowKeep hb1 (by simp [rowAt_alloc] <;> omega)
    have r2 : rowAt w1 (w.heap.size + 1) = some (ints 288 fun _ => 0, 26) := rowKeep hb1 (by simp [rowAt_alloc] <;> omega)
    have n1 := Nat.ne_of_lt (rowAt_lt r1)
    have n2 := Nat.ne_of_lt (rowAt_lt r2)
    have HB1 := Lib.hid (below2 hb1)
    clear hb1
    go_wp2
    refine ret_ct rfl rfl rfl rfl (by simp [go_sem, *]; rfl) ?_
    refine ⟨?_, by repeat (first | exact HB1.out | refine below_allocS ?_ _ | refine below_setRow' ?_ (by omega) _)⟩
    rfl
  · rw [if_neg h0]
    have hq1 : (E == 0) = false := beq_eq_false_iff_ne.2 h0
    have hq2 : decide (E = 0) = false := decide_eq_false h0
    go_enter Try.func42, Try.ntmps42
    go_wp2_with fail
    refine (C.out _).mono ?_
    rintro e w1 ⟨rfl, hb1⟩
    have r1 : rowAt w1 w.heap.size = some (ints 288 r, 26) := rowKeep hb1 (by simp [rowAt_alloc] <;> omega)
    have r2 : rowAt w1 (w.heap.size + 1) = some (ints 288 fun _ => 0, 26) := rowKeep hb1 (by simp [rowAt_alloc] <;> omega)
    have n1 := Nat.ne_of_lt (rowAt_lt r1)
    have n2 := Nat.ne_of_lt (rowAt_lt r2)
    have HB1 := Lib.hid (below2 hb1)
    clear hb1
    go_wp2
    refine ret_ct rfl rfl rfl rfl (by simp [go_sem, *]; rfl) ?_
    refine ⟨?_, by repeat (first | exact HB1.out | refine below_allocS ?_ _ | refine below_setRow' ?_ (by omega) _)⟩
    rfl
set_option maxHeartbeats 1000000 in
theorem enough_any (r : Nat → Int) (k n : Int) (w : World) : Calls Try.prog 63 #[.agg (ints 288 r), .int .i64 k, .int .i64 n] w fun e w' =>
    e = .returned (.int .i64 (enoughE r k n)) ∧ Below w.heap.size w w' := by
  have c := free_any r k
  unfold enoughE
  generalize freeE r k = E at *
  generalize freeN r k = N at *
  have C := Lib.hid c
  clear c
  by_cases hn : n < 0
  · rw [if_pos hn]
    go_enter Try.func63, Try.ntmps63
    go_wp2_with fail
    go_ret
    exact ⟨rfl, (Below.refl _ _).alloc (Nat.le_refl _) _⟩
  · rw [if_neg hn]
    by_cases h0 : E = 0
    · rw [if_pos h0]
      subst h0
      by_cases hl : N < n
      · rw [if_pos hl]
        go_enter Try.func63, Try.ntmps63
        go_wp2_with fail
        refine (C.out _).mono ?_
        rintro e w1 ⟨rfl, hb1⟩
        have HB1 := Lib.hid (((Below.refl _ _).alloc (Nat.le_refl _) _).trans (hb1.mono (by simp)))
        clear hb1
        go_wp2
        go_ret
        exact ⟨rfl, HB1.out⟩
      · rw [if_neg hl]
        have hl' : n ≤ N := by omega
        go_enter Try.func63, Try.ntmps63
        go_wp2_with fail
        refine (C.out _).mono ?_
        rintro e w1 ⟨rfl, hb1⟩
        have HB1 := Lib.hid (((Below.refl _ _).alloc (Nat.le_refl _) _).trans (hb1.mono (by simp)))
        clear hb1
        go_wp2
        go_ret
        exact ⟨rfl, HB1.out⟩
    · rw [if_neg h0]
      have hq1 : (E == 0) = false := beq_eq_false_iff_ne.2 h0
      have hq2 : decide (E = 0) = false := decide_eq_false h0
      have hq3 : (E != 0) = true := bne_iff_ne.2 h0
      go_enter Try.func63, Try.ntmps63
      go_wp2_with fail
      refine (C.out _).mono ?_
      rintro e w1 ⟨rfl, hb1⟩
      have HB1 := Lib.hid (((Below.refl _ _).alloc (Nat.le_refl _) _).trans (hb1.mono (by simp)))
      clear hb1
      go_wp2
      go_ret
      exact ⟨rfl, HB1.out⟩
set_option maxHeartbeats 1000000 in
theorem use_any (r : Nat → Int) (k n : Int) (w : World) : Calls Try.prog 36 #[.agg (ints 288 r), .int .i64 k, .int .i64 n] w fun e w' =>
    e = .returned (.tuple #[.agg (ints 288 (useF r k n)), .int .i64 (useE r k n)]) ∧ Below w.heap.size w w' := by
  have c1 := enough_any r k n
  have c2 := grow_any (sub 16 r) k n
  unfold useF useE
  generalize enoughE r k n = E1 at *
  generalize growF (sub 16 r) k n = G at *
  generalize growE (sub 16 r) k n = E at *
  have C1 := Lib.hid c1
  have C2 := Lib.hid c2
  clear c1 c2
  by_cases h1 : E1 = 0
  · rw [if_pos h1]
    subst h1
    by_cases h0 : E = 0
    · rw [if_pos h0]
      subst h0
      go_enter Try.func36, Try.ntmps36
      go_wp2_with fail
      refine (C1.out _).mono ?_
      rintro e w1 ⟨rfl, hb1⟩
      have r1 : rowAt w1 w.heap.size = some (ints 288 r, 26) := rowKeep hb1 (by simp [rowAt_alloc] <;> omega)
      have r2 : rowAt w1 (w.heap.size + 1) = some (ints 288 fun _ => 0, 26) := rowKeep hb1 (by simp [rowAt_alloc] <;> omega)
      have n1 := Nat.ne_of_lt (rowAt_lt r1)
      have n2 := Nat.ne_of_lt (rowAt_lt r2)
      have l1 := rowAt_lt r1
      have HB1 := Lib.hid (below2 hb1)
      clear hb1
      go_wp2_with fail
      refine (C2.out _).mono ?_
      rintro e w2 ⟨rfl, hb2⟩
      have r3 : rowAt w2 w.heap.size = some (ints 288 r, 26) := rowKeep hb2 (rowPast r1)
      have r4 : rowAt w2 (w.heap.size + 1) = some (ints 288 fun _ => 0, 26) := rowKeep hb2 (rowPast r2)
      have r5 : rowAt w2 w1.heap.size = some (ints 16 fun _ => 0, 23) := rowKeep hb2 (by simp [rowAt_alloc] <;> omega)
      have HB2 := Lib.hid (bthen (below_allocS HB1.out _) hb2)
      clear hb2 r1 r2
      go_wp2
      refine ret_ct rfl rfl rfl rfl (by simp [go_sem, *]; rfl) ?_
      refine ⟨?_, by repeat (first | exact HB2.out | refine below_allocS ?_ _ | refine below_setRow' ?_ (by omega) _)⟩
      rfl
    · rw [if_neg h0]
      have hq1 : (E == 0) = false := beq_eq_false_iff_ne.2 h0
      have hq2 : decide (E = 0) = false := decide_eq_false h0
      go_enter Try.func36, Try.ntmps36
      go_wp2_with fail
      refine (C1.out _).mono ?_
      rintro e w1 ⟨rfl, hb1⟩
      have r1 : rowAt w1 w.heap.size = some (ints 288 r, 26) := rowKeep hb1 (by simp [rowAt_alloc] <;> omega)
      have r2 : rowAt w1 (w.heap.size + 1) = some (ints 288 fun _ => 0, 26) := rowKeep hb1 (by simp [rowAt_alloc] <;> omega)
      have n1 := Nat.ne_of_lt (rowAt_lt r1)
      have n2 := Nat.ne_of_lt (rowAt_lt r2)
      have l1 := rowAt_lt r1
      have HB1 := Lib.hid (below2 hb1)
      clear hb1
      go_wp2_with fail
      refine (C2.out _).mono ?_
      rintro e w2 ⟨rfl, hb2⟩
      have r3 : rowAt w2 w.heap.size = some (ints 288 r, 26) := rowKeep hb2 (rowPast r1)
      have r4 : rowAt w2 (w.heap.size + 1) = some (ints 288 fun _ => 0, 26) := rowKeep hb2 (rowPast r2)
      have r5 : rowAt w2 w1.heap.size = some (ints 16 fun _ => 0, 23) := rowKeep hb2 (by simp [rowAt_alloc] <;> omega)
      have HB2 := Lib.hid (bthen (below_allocS HB1.out _) hb2)
      clear hb2 r1 r2
      go_wp2
      refine ret_ct rfl rfl rfl rfl (by simp [go_sem, *]; rfl) ?_
      refine ⟨?_, by repeat (first | exact HB2.out | refine below_allocS ?_ _ | refine below_setRow' ?_ (by omega) _)⟩
      rfl
  · rw [if_neg h1, if_neg h1]
    have h0 := h1
    have hq1 : (E1 == 0) = false := beq_eq_false_iff_ne.2 h0
    have hq2 : decide (E1 = 0) = false := decide_eq_false h0
    go_enter Try.func36, Try.ntmps36
    go_wp2_with fail
    refine (C1.out _).mono ?_
    rintro e w1 ⟨rfl, hb1⟩
    have r1 : rowAt w1 w.heap.size = some (ints 288 r, 26) := rowKeep hb1 (by simp [rowAt_alloc] <;> omega)
    have r2 : rowAt w1 (w.heap.size + 1) = some (ints 288 fun _ => 0, 26) := rowKeep hb1 (by simp [rowAt_alloc] <;> omega)
    have n1 := Nat.ne_of_lt (rowAt_lt r1)
    have n2 := Nat.ne_of_lt (rowAt_lt r2)
    have l1 := rowAt_lt r1
    have HB1 := Lib.hid (below2 hb1)
    clear hb1
    go_wp2
    refine ret_ct rfl rfl rfl rfl (by simp [go_sem, *]; rfl) ?_
    refine ⟨?_, by repeat (first | exact HB1.out | refine below_allocS ?_ _ | refine below_setRow' ?_ (by omega) _)⟩
    rfl
set_option maxHeartbeats 1000000 in
theorem ruse_any (r : Nat → Int) (k n : Int) (w : World) : Calls Try.prog 41 #[.agg (ints 288 r), .int .i64 k, .int .i64 n] w fun e w' =>
    e = .returned (.tuple #[.agg (ints 288 (useF r k n)), .int .i64 (useE r k n)]) ∧ Below w.heap.size w w' := by
  have c1 := rfree_any r k
  have c2 := rgrow_any (sub 16 r) k n
  unfold useF useE enoughE
  generalize freeE r k = E1 at *
  generalize freeN r k = N at *
  generalize growF (sub 16 r) k n = G at *
  generalize growE (sub 16 r) k n = E at *
  have C1 := Lib.hid c1
  have C2 := Lib.hid c2
  clear c1 c2
  by_cases hn : n < 0
  · simp only [if_pos hn, show ((1 : Int) = 0) = False by decide, if_false]
    go_enter Try.func41, Try.ntmps41
    go_wp2_with fail
    refine ret_ct rfl rfl rfl rfl (by simp [go_sem, *]; rfl) ?_
    exact ⟨rfl, ((Below.refl _ _).alloc (Nat.le_refl _) _).alloc (by simp) _⟩
  · simp only [if_neg hn]
    by_cases h1 : E1 = 0
    · subst h1
      simp only [if_true]
      by_cases hl : N < n
      · simp only [if_pos hl, show ((8 : Int) = 0) = False by decide, if_false]
        go_enter Try.func41, Try.ntmps41
        go_wp2_with fail
        refine (C1.out _).mono ?_
        rintro e w1 ⟨rfl, hb1⟩
        have r1 : rowAt w1 w.heap.size = some (ints 288 r, 26) := rowKeep hb1 (by simp [rowAt_alloc] <;> omega)
        have r2 : rowAt w1 (w.heap.size + 1) = some (ints 288 fun _ => 0, 26) := rowKeep hb1 (by simp [rowAt_alloc] <;> omega)
        have n1 := Nat.ne_of_lt (rowAt_lt r1)
        have n2 := Nat.ne_of_lt (rowAt_lt r2)
        have l1 := rowAt_lt r1
        have HB1 := Lib.hid (below2 hb1)
        clear hb1
        go_wp2
        refine ret_ct rfl rfl rfl rfl (by simp [go_sem, *]; rfl) ?_
        refine ⟨?_, by repeat (first | exact HB1.out | refine below_allocS ?_ _ | refine below_setRow' ?_ (by omega) _)⟩
        rfl
      · simp only [if_neg hl, if_true]
        have hl' : n ≤ N := by omega
        by_cases h0 : E = 0
        · subst h0
          simp only [if_true]
          go_enter Try.func41, Try.ntmps41
          go_wp2_with fail
          refine (C1.out _).mono ?_
          rintro e w1 ⟨rfl, hb1⟩
          have r1 : rowAt w1 w.heap.size = some (ints 288 r, 26) := rowKeep hb1 (by simp [rowAt_alloc] <;> omega)
          have r2 : rowAt w1 (w.heap.size + 1) = some (ints 288 fun _ => 0, 26) := rowKeep hb1 (by simp [rowAt_alloc] <;> omega)
          have n1 := Nat.ne_of_lt (rowAt_lt r1)
          have n2 := Nat.ne_of_lt (rowAt_lt r2)
          have l1 := rowAt_lt r1
          have HB1 := Lib.hid (below2 hb1)
          clear hb1
          go_wp2_with fail
          refine (C2.out _).mono ?_
          rintro e w2 ⟨rfl, hb2⟩
          have r3 : rowAt w2 w.heap.size = some (ints 288 r, 26) := rowKeep hb2 r1
          have r4 : rowAt w2 (w.heap.size + 1) = some (ints 288 fun _ => 0, 26) := rowKeep hb2 r2
          have n3 := Nat.ne_of_lt (rowAt_lt r3)
          have n4 := Nat.ne_of_lt (rowAt_lt r4)
          have HB2 := Lib.hid (bthen HB1.out hb2)
          clear hb2 r1 r2
          go_wp2
          refine ret_ct rfl rfl rfl rfl (by simp [go_sem, *]; rfl) ?_
          refine ⟨?_, by repeat (first | exact HB2.out | refine below_allocS ?_ _ | refine below_setRow' ?_ (by omega) _)⟩
          rfl
        · simp only [if_neg h0]
          have hq1 : (E == 0) = false := beq_eq_false_iff_ne.2 h0
          have hq2 : decide (E = 0) = false := decide_eq_false h0
          go_enter Try.func41, Try.ntmps41
          go_wp2_with fail
          refine (C1.out _).mono ?_
          rintro e w1 ⟨rfl, hb1⟩
          have r1 : rowAt w1 w.heap.size = some (ints 288 r, 26) := rowKeep hb1 (by simp [rowAt_alloc] <;> omega)
          have r2 : rowAt w1 (w.heap.size + 1) = some (ints 288 fun _ => 0, 26) := rowKeep hb1 (by simp [rowAt_alloc] <;> omega)
          have n1 := Nat.ne_of_lt (rowAt_lt r1)
          have n2 := Nat.ne_of_lt (rowAt_lt r2)
          have l1 := rowAt_lt r1
          have HB1 := Lib.hid (below2 hb1)
          clear hb1
          go_wp2_with fail
          refine (C2.out _).mono ?_
          rintro e w2 ⟨rfl, hb2⟩
          have r3 : rowAt w2 w.heap.size = some (ints 288 r, 26) := rowKeep hb2 r1
          have r4 : rowAt w2 (w.heap.size + 1) = some (ints 288 fun _ => 0, 26) := rowKeep hb2 r2
          have n3 := Nat.ne_of_lt (rowAt_lt r3)
          have n4 := Nat.ne_of_lt (rowAt_lt r4)
          have HB2 := Lib.hid (bthen HB1.out hb2)
          clear hb2 r1 r2
          go_wp2
          refine ret_ct rfl rfl rfl rfl (by simp [go_sem, *]; rfl) ?_
          refine ⟨?_, by repeat (first | exact HB2.out | refine below_allocS ?_ _ | refine below_setRow' ?_ (by omega) _)⟩
          rfl
    · simp only [if_neg h1]
      have h0 := h1
      have hq1 : (E1 == 0) = false := beq_eq_false_iff_ne.2 h0
      have hq2 : decide (E1 = 0) = false := decide_eq_false h0
      go_enter Try.func41, Try.ntmps41
      go_wp2_with fail
      refine (C1.out _).mono ?_
      rintro e w1 ⟨rfl, hb1⟩
      have r1 : rowAt w1 w.heap.size = some (ints 288 r, 26) := rowKeep hb1 (by simp [rowAt_alloc] <;> omega)
      have r2 : rowAt w1 (w.heap.size + 1) = some (ints 288 fun _ => 0, 26) := rowKeep hb1 (by simp [rowAt_alloc] <;> omega)
      have n1 := Nat.ne_of_lt (rowAt_lt r1)
      have n2 := Nat.ne_of_lt (rowAt_lt r2)
      have l1 := rowAt_lt r1
      have HB1 := Lib.hid (below2 hb1)
      clear hb1
      go_wp2
      refine ret_ct rfl rfl rfl rfl (by simp [go_sem, *]; rfl) ?_
      refine ⟨?_, by repeat (first | exact HB1.out | refine below_allocS ?_ _ | refine below_setRow' ?_ (by omega) _)⟩
      rfl
end Go.Proofs.YtifnjgedohdjhaaRRR
