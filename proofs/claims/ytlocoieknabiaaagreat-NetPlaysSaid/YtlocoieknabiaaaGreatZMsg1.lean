/-
  Layer 14 (message): a want, and its bytes.
-/
import Derived.Test.YtlocoieknabiaaaGreatZGG
import Derived.Test.YtlocoieknabiaaaGreatZGF
namespace Go.Proofs.YtlocoieknabiaaaGreat
set_option maxRecDepth 20000
open Go.RowKit
set_option linter.unusedSimpArgs false
attribute [local go_sem] rowCells rowAt_drewN get_ints getE_ints set_ints size_ints rowAt_alloc rowAt_drew setRow_alloc setRow_drewN setRow_drew setCell_alloc setCell_drewN splice_upd splice_put splice_all load_vec_cut load_vecs_cut load_rights_cut load_counter store_vec store_rights store_counter eql_vec neq_vec index_vec eql_rights neq_rights eql_counter index_vecs cut_ints sub_zero
attribute [local go_sem ↓] xload_vec xstore_vec xalloc_vec xeql_vec xneq_vec xindex_vec xbuild_vec0 xload_rights xstore_rights xalloc_rights xeql_rights xneq_rights xbuild_rights0 xload_vecs xindex_vecs xload_counter xstore_counter xalloc_counter xbuild_counter0 xeql_counter xbuild_counter3
attribute [local go_sem] rowAt_setRow rowAt_setCell load_vec_cut_later load_rights_later load_counter_later Later.cell Later.frozen build3_ints
attribute [local go_sem ↓] xload_field xstore_field xalloc_field xload_lock
attribute [local go_sem] load_field load_field_later store_field load_counter_cut load_lock_cut load_lock_later Fld.size Fld.get0 Fld.get1 Fld.get2 Fld.get586 Fld.getE0 Fld.getE1 Fld.getE2 Fld.getE586 Fld.cut_cnt Fld.cut_lock Fld.cut_all Fld.splice_all strT_size

def msg0 : Msg := ⟨0, 0, 0, 0, 0, false, none, 0, 0, fun _ => fld0, 0, [], [], 0, 0⟩
def wantM : Msg := ⟨5, 0, 1, 3, 0, false, none, 0, 0, fun _ => fld0, 0, [], [], 0, 0⟩
def msgC (k f t v n : Int) : Array Value := #[.int .i64 k, .int .i64 f, .int .i64 t, .int .i64 v, .int .i64 n, .bool false, .slice none 0 0, .int .i64 0, .string ByteArray.empty, .string ByteArray.empty, .int .i64 0, .int .i64 0]
theorem strT_nil : strT [] = ByteArray.empty := rfl
theorem within_any (n a b : Int) (w : World) : Calls Tryz.prog 49 #[.int .i64 n, .int .i64 a, .int .i64 b] w fun e w' => e = .returned (.bool (decide (a ≤ n) && decide (n ≤ b))) ∧ Below w.heap.size w w' := by
  by_cases h : a ≤ n
  all_goals
    go_enter Tryz.func49, Tryz.ntmps49
    go_wp2
    go_ret
    exact ⟨by simp [h] <;> omega, Below.refl _ _⟩
theorem within_is {n a b : Int} {r : Bool} (h : (decide (a ≤ n) && decide (n ≤ b)) = r) (w : World) : Calls Tryz.prog 49 #[.int .i64 n, .int .i64 a, .int .i64 b] w fun e w' => e = .returned (.bool r) ∧ Below w.heap.size w w' := by
  rw [← h]; exact within_any n a b w
theorem planFields_nil (w : World) : Calls Tryz.prog 51 #[.slice none 0 0] w fun e w' => e = .returned (.bool true) ∧ Below w.heap.size w w' := by
  go_enter Tryz.func51, Tryz.ntmps51
  go_wp2_with fail
  go_loopw [7] (fun i w' => i = .int .i64 0 ∧ Below w.heap.size w w') (fun _ _ => 0)
  case atStart => exact ⟨rfl, Below.refl _ _⟩
  case round =>
    obtain ⟨rfl, hb⟩ := hrel
    go_wp2_with fail
    go_ret
    exact ⟨rfl, hb⟩
theorem is_at {n : Int} {b : Bool} (h : isB n = b) (w : World) : Calls Tryz.prog 50 #[.int .i64 n] w fun e w' => e = .returned (.bool b) ∧ Below w.heap.size w w' :=
  (is_any n w).mono fun _ _ ⟨h1, h2⟩ => ⟨h1.trans (by rw [h]), h2 ▸ Below.refl _ _⟩
set_option maxHeartbeats 2000000 in
theorem right_want (w : World) : Calls Tryz.prog 32 #[.agg (msgC 5 0 1 3 0)] w fun e w' => e = .returned (.bool true) ∧ Below w.heap.size w w' := by
  unfold msgC
  go_enter Tryz.func32, Tryz.ntmps32
  go_upto_region 1 with fail
  refine region_seq ?_
  repeat (go_big_quiet_step ((first | (go_at_call 49; exact quiet_call (by simp) (within_is (r := true) (by decide) _)))))
  refine wpQuiet_nil ?_
  intro w1 hb1
  have r1 : rowAt w1 w.heap.size = some (msgC 5 0 1 3 0, 34) := rowKeep hb1 (rowAt_alloc_at _ _ _ _ rfl)
  have HB1 := Lib.hid (bthen (below_allocS (Below.refl _ _) _) hb1)
  have n1 := rowAt_lt r1
  have H1 := Lib.hid (Nat.le_of_lt n1)
  have k0 : w1.cell? ⟨w.heap.size, 0, none⟩ = some (.int .i64 5) := by rw [cell_of_rowAt r1]; rfl
  have k3 : w1.cell? ⟨w.heap.size, 3, none⟩ = some (.int .i64 3) := by rw [cell_of_rowAt r1]; rfl
  have k4 : w1.cell? ⟨w.heap.size, 4, none⟩ = some (.int .i64 0) := by rw [cell_of_rowAt r1]; rfl
  have k6 : w1.cell? ⟨w.heap.size, 6, none⟩ = some (.slice none 0 0) := by rw [cell_of_rowAt r1]; rfl
  clear hb1
  go_upto_region 3 with fail
  refine region_seq ?_
  repeat (go_big_quiet_step ((first | (go_at_call 49; exact quiet_call (by simp) (within_is (r := true) (by decide) _)) | (go_at_call 50; exact quiet_call (by simp) (is_at (b := true) (by decide) _)) | (go_at_call 51; exact quiet_call (by simp) (planFields_nil _)))))
  refine wpQuiet_nil ?_
  intro w2 hb2
  have r2 := rowKeep hb2 r1
  have HB2 := Lib.hid (bthen HB1.out hb2)
  clear hb2 k0 k3 k4 k6 r1
  have k0 : w2.cell? ⟨w.heap.size, 0, none⟩ = some (.int .i64 5) := by rw [cell_of_rowAt r2]; rfl
  have k5 : w2.cell? ⟨w.heap.size, 5, none⟩ = some (.bool false) := by rw [cell_of_rowAt r2]; rfl
  have k6 : w2.cell? ⟨w.heap.size, 6, none⟩ = some (.slice none 0 0) := by rw [cell_of_rowAt r2]; rfl
  have k7 : w2.cell? ⟨w.heap.size, 7, none⟩ = some (.int .i64 0) := by rw [cell_of_rowAt r2]; rfl
  have k8 : w2.cell? ⟨w.heap.size, 8, none⟩ = some (.string ByteArray.empty) := by rw [cell_of_rowAt r2]; rfl
  have k9 : w2.cell? ⟨w.heap.size, 9, none⟩ = some (.string ByteArray.empty) := by rw [cell_of_rowAt r2]; rfl
  have k10 : w2.cell? ⟨w.heap.size, 10, none⟩ = some (.int .i64 0) := by rw [cell_of_rowAt r2]; rfl
  have k11 : w2.cell? ⟨w.heap.size, 11, none⟩ = some (.int .i64 0) := by rw [cell_of_rowAt r2]; rfl
  go_wp2_with fail
  go_loopw [53] (fun i w' => i = .int .i64 0 ∧ w' = w2) (fun _ _ => 0)
  case atStart => exact ⟨rfl, rfl⟩
  case round =>
    obtain ⟨rfl, rfl⟩ := hrel
    go_wp2_with fail
    go_ret
    exact ⟨rfl, HB2.out⟩
end Go.Proofs.YtlocoieknabiaaaGreat
