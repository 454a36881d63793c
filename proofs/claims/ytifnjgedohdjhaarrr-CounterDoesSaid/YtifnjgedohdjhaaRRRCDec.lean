/-
  Layer 4 (counter): Dec, Hand.
-/
import Derived.Test.YtifnjgedohdjhaaRRRCDo
namespace Go.Proofs.YtifnjgedohdjhaaRRR
open Go.RowKit
set_option linter.unusedSimpArgs false
attribute [local go_sem] rowCells rowAt_drewN get_ints getE_ints set_ints size_ints rowAt_alloc rowAt_drew setRow_alloc setRow_drewN setRow_drew setCell_alloc setCell_drewN splice_upd splice_put splice_all load_vec_cut load_vecs_cut load_rights_cut load_counter store_vec store_rights store_counter eql_vec neq_vec index_vec eql_rights neq_rights eql_counter index_vecs cut_ints sub_zero
attribute [local go_sem ↓] xload_vec xstore_vec xalloc_vec xeql_vec xneq_vec xindex_vec xbuild_vec0 xload_rights xstore_rights xalloc_rights xeql_rights xneq_rights xbuild_rights0 xload_vecs xindex_vecs xload_counter xstore_counter xalloc_counter xbuild_counter0 xeql_counter xbuild_counter3
attribute [local go_sem] rowAt_setRow rowAt_setCell load_vec_cut_later load_rights_later load_counter_later Later.cell Later.frozen build3_ints
attribute [local go_sem] rn_true rn_false re_true re_false eqI_self
set_option maxHeartbeats 2000000 in
theorem dec_any (c : Nat → Int) (k n : Int) (w : World) : Calls Try.prog 17 #[.agg (ints 579 c), .int .i64 k, .int .i64 n] w fun e w' =>
    e = .returned (.tuple #[.agg (ints 579 (decF c k n)), .int .i64 (decE c k n)]) ∧ Below w.heap.size w w' := by
  have C : ∀ w4 : World, rowAt w4 w.heap.size = some (ints 579 c, 28) → rowAt w4 (w.heap.size + 1) = some (#[.int .i64 k], 3) → rowAt w4 (w.heap.size + 2) = some (#[.int .i64 n], 3) → _ := fun w4 h1 h2 h3 =>
    both_any 43 44 45 #[.pointer (some ⟨w.heap.size, 0, none⟩), .pointer (some ⟨w.heap.size + 1, 0, none⟩), .pointer (some ⟨w.heap.size + 2, 0, none⟩)] #[.pointer (some ⟨w.heap.size, 0, none⟩), .pointer (some ⟨w.heap.size + 1, 0, none⟩), .pointer (some ⟨w.heap.size + 2, 0, none⟩)] c (dn (useF (sub 3 c) k n) (giveF (sub 291 c) k n) c) _ _ _ _ w.heap.size w4 (by intro w; kernel_rfl) (by intro w; kernel_rfl) (by intro w; kernel_rfl) h1
      (fun w1 hb => dec1_any c k n w.heap.size (w.heap.size + 1) (w.heap.size + 2) w1 (rowKeep hb h1) (rowKeep hb h2) (rowKeep hb h3)) (fun w1 hb => dec2_any c k n w.heap.size (w.heap.size + 1) (w.heap.size + 2) w1 (rowKeep hb h1) (rowKeep hb h2) (rowKeep hb h3)) (fun w1 h => dec3_any _ _ c w.heap.size w1 h)
  have HC := Lib.hid C
  clear C
  have hmf : ∀ (fn : Fn) (first cap : Array Value) (w : World), (Instr.makeFunc fn first cap).run Try.prog w = .ok (.func fn first cap) w := fun _ _ _ _ => rfl
  unfold decF
  change Calls _ _ _ _ fun e w' => e = .returned (.tuple #[.agg (ints 579 (doneF (if useE (sub 3 c) k n = 0 then giveE (sub 291 c) k n else useE (sub 3 c) k n) _)), .int .i64 (if useE (sub 3 c) k n = 0 then giveE (sub 291 c) k n else useE (sub 3 c) k n)]) ∧ _
  generalize (if useE (sub 3 c) k n = 0 then giveE (sub 291 c) k n else useE (sub 3 c) k n) = E at *
  go_enter Try.func17, Try.ntmps17
  go_wp2_with fail
  refine (HC.out _ (rowPast (rowPast (rowPast (rowAt_alloc_at _ _ _ _ rfl)))) (rowPast (rowPast (rowAt_alloc_at _ _ _ _ (by simp)))) (rowPast (rowAt_alloc_at _ _ _ _ (by simp)))).mono ?_
  rintro e w5 ⟨rfl, hb5⟩
  have r5 := hb5.row
  obtain ⟨C5, hC5⟩ : ∃ C5, (if E = 0 then dn (useF (sub 3 c) k n) (giveF (sub 291 c) k n) c else c) = C5 := ⟨_, rfl⟩
  rw [hC5] at r5
  have HC5 := Lib.hid hC5
  clear hC5
  have r6 : rowAt w5 (w.heap.size + 3) = some (ints 579 fun _ => 0, 28) := by rw [hb5.rest _ (by omega) (by simp)]; exact rowAt_alloc_at _ _ _ _ (by simp)
  have HB5 : Hid (Below w.heap.size w w5) := Lib.hid ((below_allocS (below_allocS (below_allocS (below_allocS (Below.refl _ _) _) _) _) _).trans hb5.below)
  clear hb5 HC
  go_wp2_with fail
  refine (done_any _ _ _).mono ?_
  rintro e w6 ⟨rfl, hb6⟩
  have r7 := rowKeep hb6 r6
  have m7 := Nat.ne_of_lt (rowAt_lt r7)
  have HB6 := Lib.hid (bthen HB5.out hb6)
  clear hb6 r5 r6
  go_wp2
  refine ret_ct rfl rfl rfl rfl (by simp [go_sem, *]; rfl) ?_
  refine ⟨?_, below_setRow' HB6.out (by omega) _⟩
  rw [show doneF E C5 = doneF E (dn (useF (sub 3 c) k n) (giveF (sub 291 c) k n) c) by rw [← HC5.out, doneF_if]]
  rfl
set_option maxHeartbeats 2000000 in
theorem hand_any (c : Nat → Int) (i k n m : Int) (w : World) : Calls Try.prog 19 #[.agg (ints 579 c), .int .i64 i, .int .i64 k, .int .i64 n, .int .i64 m] w fun e w' =>
    e = .returned (.tuple #[.agg (ints 579 (handF c i k n m)), .int .i64 (handE c i k n m)]) ∧ Below w.heap.size w w' := by
  have C : ∀ w4 : World, rowAt w4 w.heap.size = some (ints 579 c, 28) → rowAt w4 (w.heap.size + 1) = some (#[.int .i64 i], 3) → rowAt w4 (w.heap.size + 2) = some (#[.int .i64 k], 3) → rowAt w4 (w.heap.size + 3) = some (#[.int .i64 n], 3) → rowAt w4 (w.heap.size + 4) = some (#[.int .i64 m], 3) → _ := fun w4 h1 h2 h3 h4 h5 =>
    both_any 46 48 49 #[.pointer (some ⟨w.heap.size, 0, none⟩), .pointer (some ⟨w.heap.size + 1, 0, none⟩), .pointer (some ⟨w.heap.size + 2, 0, none⟩), .pointer (some ⟨w.heap.size + 3, 0, none⟩)] #[.pointer (some ⟨w.heap.size, 0, none⟩), .pointer (some ⟨w.heap.size + 1, 0, none⟩), .pointer (some ⟨w.heap.size + 2, 0, none⟩), .pointer (some ⟨w.heap.size + 4, 0, none⟩)] c (dn (moveF (sub 3 c) i k n) (moveF (sub 291 c) i k m) c) _ _ _ _ w.heap.size w4 (by intro w; kernel_rfl) (by intro w; kernel_rfl) (by intro w; kernel_rfl) h1
      (fun w1 hb => hand1_any c i k n w.heap.size (w.heap.size + 1) (w.heap.size + 2) (w.heap.size + 3) w1 (rowKeep hb h1) (rowKeep hb h2) (rowKeep hb h3) (rowKeep hb h4)) (fun w1 hb => hand2_any c i k m w.heap.size (w.heap.size + 1) (w.heap.size + 2) (w.heap.size + 4) w1 (rowKeep hb h1) (rowKeep hb h2) (rowKeep hb h3) (rowKeep hb h5)) (fun w1 h => hand3_any _ _ c w.heap.size w1 h)
  have HC := Lib.hid C
  clear C
  have hmf : ∀ (fn : Fn) (first cap : Array Value) (w : World), (Instr.makeFunc fn first cap).run Try.prog w = .ok (.func fn first cap) w := fun _ _ _ _ => rfl
  unfold handF
  change Calls _ _ _ _ fun e w' => e = .returned (.tuple #[.agg (ints 579 (doneF (if moveE (sub 3 c) i k n = 0 then moveE (sub 291 c) i k m else moveE (sub 3 c) i k n) _)), .int .i64 (if moveE (sub 3 c) i k n = 0 then moveE (sub 291 c) i k m else moveE (sub 3 c) i k n)]) ∧ _
  generalize (if moveE (sub 3 c) i k n = 0 then moveE (sub 291 c) i k m else moveE (sub 3 c) i k n) = E at *
  go_enter Try.func19, Try.ntmps19
  go_wp2_with fail
  refine (HC.out _ (rowPast (rowPast (rowPast (rowPast (rowPast (rowAt_alloc_at _ _ _ _ rfl)))))) (rowPast (rowPast (rowPast (rowPast (rowAt_alloc_at _ _ _ _ (by simp)))))) (rowPast (rowPast (rowPast (rowAt_alloc_at _ _ _ _ (by simp))))) (rowPast (rowPast (rowAt_alloc_at _ _ _ _ (by simp)))) (rowPast (rowAt_alloc_at _ _ _ _ (by simp)))).mono ?_
  rintro e w5 ⟨rfl, hb5⟩
  have r5 := hb5.row
  obtain ⟨C5, hC5⟩ : ∃ C5, (if E = 0 then dn (moveF (sub 3 c) i k n) (moveF (sub 291 c) i k m) c else c) = C5 := ⟨_, rfl⟩
  rw [hC5] at r5
  have HC5 := Lib.hid hC5
  clear hC5
  have r6 : rowAt w5 (w.heap.size + 5) = some (ints 579 fun _ => 0, 28) := by rw [hb5.rest _ (by omega) (by simp)]; exact rowAt_alloc_at _ _ _ _ (by simp)
  have HB5 : Hid (Below w.heap.size w w5) := Lib.hid ((below_allocS (below_allocS (below_allocS (below_allocS (below_allocS (below_allocS (Below.refl _ _) _) _) _) _) _) _).trans hb5.below)
  clear hb5 HC
  go_wp2_with fail
  refine (done_any _ _ _).mono ?_
  rintro e w6 ⟨rfl, hb6⟩
  have r7 := rowKeep hb6 r6
  have m7 := Nat.ne_of_lt (rowAt_lt r7)
  have HB6 := Lib.hid (bthen HB5.out hb6)
  clear hb6 r5 r6
  go_wp2
  refine ret_ct rfl rfl rfl rfl (by simp [go_sem, *]; rfl) ?_
  refine ⟨?_, below_setRow' HB6.out (by omega) _⟩
  rw [show doneF E C5 = doneF E (dn (moveF (sub 3 c) i k n) (moveF (sub 291 c) i k m) c) by rw [← HC5.out, doneF_if]]
  rfl
end Go.Proofs.YtifnjgedohdjhaaRRR
