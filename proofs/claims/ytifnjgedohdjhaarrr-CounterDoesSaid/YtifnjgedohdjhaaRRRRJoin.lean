/-
  Layer 3 (rights): Join; the reference's.
-/
import Derived.Test.YtifnjgedohdjhaaRRRRMove
import Derived.Test.YtifnjgedohdjhaaRRRTail
namespace Go.Proofs.YtifnjgedohdjhaaRRR
open Go.RowKit
set_option linter.unusedSimpArgs false
attribute [local go_sem] rowCells rowAt_drewN get_ints getE_ints set_ints size_ints rowAt_alloc rowAt_drew setRow_alloc setRow_drewN setRow_drew setCell_alloc setCell_drewN splice_upd splice_all load_vec_cut load_vecs_cut load_rights_cut store_vec store_rights eql_vec neq_vec index_vec eql_rights neq_rights index_vecs cut_ints sub_zero
attribute [local go_sem ↓] xload_vec xstore_vec xalloc_vec xeql_vec xneq_vec xindex_vec xbuild_vec0 xload_rights xstore_rights xalloc_rights xeql_rights xneq_rights xbuild_rights0 xload_vecs xindex_vecs
attribute [local go_sem] rowAt_setRow rowAt_setCell load_vec_cut_later load_rights_later Later.cell Later.frozen
attribute [local go_sem] rn_true rn_false re_true re_false eqI_self

set_option maxHeartbeats 1000000 in
/-- The closure of Join: a vector in place. -/
theorem each_any (g o n : Nat) (r v : Nat → Int) (T : TypeId) (w : World) (hr : rowAt w g = some (ints n r, T)) (ho : o + 16 ≤ n) :
    Calls Try.prog 66 #[.pointer (some ⟨g, o, none⟩), .agg (ints 16 v)] w fun e w' => e = .returned (.tuple #[]) ∧ ∃ w1, Below w.heap.size w w1 ∧ w' = w1.setRow g (ints n (upd o (joinV (sub o r) v) r)) := by
  have n0 := Nat.ne_of_lt (rowAt_lt hr)
  have l0 := rowAt_lt hr
  have l1 : g < w.heap.size + 1 := by omega
  go_enter Try.func66, Try.ntmps66
  go_wp2
  refine region_quiet_tail 7 (by kernel_rfl) (by kernel_rfl) ?_
  simp only [List.take_succ_cons, List.take_zero, List.drop_succ_cons, List.drop_zero]
  repeat (go_big_quiet_step ((go_at_call 67; exact quiet_call (by simp) (join_any _ _ _))))
  refine wpQuiet_nil ?_
  intro w1 hb1
  have r1 : rowAt w1 g = some (ints n r, T) := rowKeep hb1 (rowPast hr)
  have HB1 := Lib.hid (((Below.refl _ _).alloc (Nat.le_refl _) _).trans (hb1.mono (by simp)))
  clear hb1
  go_wp2
  refine bodyPost_end (v := .tuple #[]) (by simp [results, show Try.f66.results = #[] from rfl]) rfl ?_
  exact ⟨rfl, w1, HB1.out, rfl⟩
/-- The join of the first m numbers. -/
def jn (a b : Nat → Int) (m : Nat) : Nat → Int := fun i => if i < m then joinV a b i else a i
theorem jn_step (a b : Nat → Int) (o : Nat) : upd o (joinV (sub o (jn a b o)) (sub o b)) (jn a b o) = jn a b (o + 16) := by
  funext i
  unfold upd jn sub
  by_cases h1 : o ≤ i
  · obtain ⟨d, rfl⟩ : ∃ d, i = o + d := ⟨i - o, by omega⟩
    by_cases h2 : d < 16
    · rw [if_pos ⟨by omega, by omega⟩, if_pos (by omega)]
      have h3 : ¬ o + d < o := by omega
      unfold joinV
      simp [Nat.add_sub_cancel_left, h3]
    · rw [if_neg (by omega), if_neg (by omega), if_neg (by omega)]
  · rw [if_neg (by omega), if_pos (by omega), if_pos (by omega)]
theorem jn_zero (a b : Nat → Int) : jn a b 0 = a := by funext i; simp [jn]
theorem jn_all (a b : Nat → Int) : ints 288 (jn a b 288) = ints 288 (joinV a b) := ints_congr fun i hi => by simp [jn, hi]
set_option maxHeartbeats 2000000 in
theorem rjoinR_any (a b : Nat → Int) (w : World) : Calls Try.prog 51 #[.agg (ints 288 a), .agg (ints 288 b)] w fun e w' => e = .returned (.agg (ints 288 (joinV a b))) ∧ Below w.heap.size w w' := by
  go_enter Try.func51, Try.ntmps51
  go_wp2_with fail
  refine (each_any w.heap.size 0 288 a b 26 _ (by simp [rowAt_alloc] <;> omega) (by omega)).mono ?_
  rintro e _ ⟨rfl, w1, hb1, rfl⟩
  have r2 : rowAt w1 (w.heap.size + 1) = some (ints 288 b, 26) := rowKeep hb1 (by simp [rowAt_alloc] <;> omega)
  have r3 : rowAt w1 (w.heap.size + 1 + 1) = some (ints 288 fun _ => 0, 26) := rowKeep hb1 (by simp [rowAt_alloc] <;> omega)
  have r1 : rowAt w1 w.heap.size = some (ints 288 a, 26) := rowKeep hb1 (by simp [rowAt_alloc] <;> omega)
  have e0 : upd 0 (joinV (sub 0 a) b) a = jn a b 16 := by
    have h := jn_step a b 0
    rw [jn_zero, sub_zero b] at h
    exact h
  rw [e0]
  have HB1 := Lib.hid (((((Below.refl _ _).alloc (Nat.le_refl _) _).alloc (by simp) _).alloc (by simp; omega) _).trans (hb1.mono (by simp; omega)))
  have l1 := rowAt_lt r1
  clear hb1 e0
  go_wp2_with fail
  refine (each_any w.heap.size 16 288 (jn a b 16) (sub 16 b) 26 _ (by simp [rowAt_setRow, r1]) (by omega)).mono ?_
  rintro e _ ⟨rfl, w2, hb2, rfl⟩
  rw [jn_step]
  have r4 : rowAt w2 (w.heap.size + 1) = some (ints 288 b, 26) := rowKeep hb2 (by simp [rowAt_setRow, r2])
  have r5 : rowAt w2 (w.heap.size + 1 + 1) = some (ints 288 fun _ => 0, 26) := rowKeep hb2 (by simp [rowAt_setRow, r3] <;> omega)
  have r6 : rowAt w2 w.heap.size = some (ints 288 (jn a b 16), 26) := rowKeep hb2 (by simp [rowAt_setRow, r1])
  have HB2 := Lib.hid (bthen (below_setRow' HB1.out (Nat.le_refl _) _) hb2)
  clear hb2 r1 r2 r3 l1 HB1
  go_wp2_with fail
  go_loopw [17] (fun i w' => ∃ k : Nat, k ≤ 16 ∧ i = .int .i64 k ∧ rowAt w' w.heap.size = some (ints 288 (jn a b (32 + k * 16)), 26) ∧ rowAt w' (w.heap.size + 1) = some (ints 288 b, 26) ∧
      rowAt w' (w.heap.size + 1 + 1) = some (ints 288 fun _ => 0, 26) ∧ Below w.heap.size w w') (fun i _ => 16 - (intOf i).toNat)
  case atStart => exact ⟨0, by omega, rfl, by simp [rowAt_setRow, r6], by simp [rowAt_setRow, r4], by simp [rowAt_setRow, r5] <;> omega, below_setRow' HB2.out (Nat.le_refl _) _⟩
  case round =>
    rename_i wr
    obtain ⟨k, hk, rfl, q1, q2, q3, hb⟩ := hrel
    have HB := Lib.hid hb
    have l1 := rowAt_lt q1
    have l2 := rowAt_lt q2
    have l3 := rowAt_lt q3
    clear hb r4 r5 r6 HB2
    by_cases hlt : k < 16
    · have hle : 32 + k * 16 + 16 ≤ 288 := by omega
      go_wp2_with fail
      refine region_quiet_tail 8 (by kernel_rfl) (by kernel_rfl) ?_
      simp only [List.take_succ_cons, List.take_zero, List.drop_succ_cons, List.drop_zero]
      repeat (go_big_quiet_step (fail))
      refine wpQuiet_nil ?_
      intro w3 hb3
      have p1 := rowKeep hb3 q1
      have p2 := rowKeep hb3 q2
      have p3 := rowKeep hb3 q3
      have HB3 := Lib.hid (bthen HB.out hb3)
      clear hb3 q1 q2 q3 HB
      go_wp2_with fail
      refine (each_any w.heap.size (32 + k * 16) 288 (jn a b (32 + k * 16)) (sub (32 + k * 16) b) 26 _ p1 hle).mono ?_
      rintro e _ ⟨rfl, w4, hb4, rfl⟩
      rw [jn_step]
      have t1 := rowKeep hb4 p1
      have t2 := rowKeep hb4 p2
      have t3 := rowKeep hb4 p3
      have HB4 := Lib.hid (bthen HB3.out hb4)
      clear hb4 p1 p2 p3 HB3
      go_wp2_with fail
      go_roundw
      case rel => exact ⟨k + 1, by omega, by go_num, by simp [rowAt_setRow, t1, show 32 + (k + 1) * 16 = 32 + k * 16 + 16 by omega], by simp [rowAt_setRow, t2], by simp [rowAt_setRow, t3] <;> omega, below_setRow' HB4.out (Nat.le_refl _) _⟩
      case measure => simp [intOf]; omega
    · obtain rfl : k = 16 := by omega
      go_wp2_with fail
      refine ret_c rfl rfl rfl (by simp [go_sem, *]; rfl) ?_
      exact ⟨by rw [← jn_all], below_setRow' HB.out (by omega) _⟩
end Go.Proofs.YtifnjgedohdjhaaRRR
