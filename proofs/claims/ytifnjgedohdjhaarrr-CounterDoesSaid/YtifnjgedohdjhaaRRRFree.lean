/-
  Layer 3 (rights): less, is, Free, Total; the reference's.
-/
import Derived.Test.YtifnjgedohdjhaaRRRRights
namespace Go.Proofs.YtifnjgedohdjhaaRRR
open Go.RowKit
attribute [local go_sem] rowCells rowAt_drewN get_ints getE_ints set_ints size_ints rowAt_alloc rowAt_drew setRow_alloc setRow_drewN setRow_drew setCell_alloc setCell_drewN splice_upd splice_all load_vec_cut load_vecs_cut load_rights_cut store_vec store_rights eql_vec neq_vec index_vec eql_rights neq_rights index_vecs cut_ints sub_zero
attribute [local go_sem ↓] xload_vec xstore_vec xalloc_vec xeql_vec xneq_vec xindex_vec xbuild_vec0 xload_rights xstore_rights xalloc_rights xeql_rights xneq_rights xbuild_rights0 xload_vecs xindex_vecs
attribute [local go_sem] rowAt_setRow rowAt_setCell load_vec_cut_later load_rights_later Later.cell Later.frozen
attribute [local go_sem] rn_true rn_false re_true re_false eqI_self

/-- A number turned about. -/
def ng (x : Int) : Int := wrap64 (-x)
def isK (k : Int) : Bool := decide (0 ≤ k) && decide (k < 16)
theorem isK_iff {k : Int} : isK k = true ↔ 0 ≤ k ∧ k < 16 := by simp [isK]
theorem isK_false {k : Int} (h : ¬ (0 ≤ k ∧ k < 16)) : isK k = false := by
  cases hr : isK k with
  | false => rfl
  | true => exact absurd (isK_iff.1 hr) h
theorem isk_any (k : Int) (w : World) : Calls Try.prog 60 #[.int .i64 k] w fun e w' => e = .returned (.bool (isK k)) ∧ w = w' := by
  by_cases h : 0 ≤ k
  all_goals
    go_enter Try.func60, Try.ntmps60
    go_wp2
    go_ret
    refine ⟨?_, rfl⟩
    simp [isK]
    try omega
def lessL (n : Nat) (f : Nat → Int) : List Int := (List.range n).map fun i => ng (f i)
theorem lessL_succ (n : Nat) (f : Nat → Int) : lessL (n + 1) f = lessL n f ++ [ng (f n)] := by simp [lessL, List.range_succ]
set_option maxHeartbeats 1000000 in
theorem less_any (f : Nat → Int) (w : World) : Calls Try.prog 61 #[.agg (ints 16 f)] w fun e w' => ∃ v, e = .returned v ∧ OwnI w' w.heap.size v (lessL 16 f) ∧ Below w.heap.size w w' := by
  go_enter Try.func61, Try.ntmps61
  go_wp2_with fail
  go_loopw [3, 7] (fun v i w' => ∃ k : Nat, k ≤ 16 ∧ i = .int .i64 k ∧ OwnI w' w.heap.size v (lessL k f) ∧ Below w.heap.size w w') (fun _ i _ => 16 - (intOf i).toNat)
  case atStart => exact ⟨0, by omega, rfl, OwnI.nil _ _, (Below.refl _ _).alloc (Nat.le_refl _) _⟩
  case round =>
    rename_i wr
    obtain ⟨k, hk, rfl, hown, hb⟩ := hrel
    by_cases hlt : k < 16
    · have HO := Lib.hid hown
      have HB := Lib.hid hb
      clear hown hb
      go_wp2_with (at_builtin; go_loud (refine wl_append_one rfl _ _ rfl w.heap.size _ _ _ HO.out rfl rfl (by simp) (by simp [lessL]; omega) HB.out.size ?_))
      intro v' w1 hown hb
      have HO' := Lib.hid hown
      have HB' := Lib.hid (HB.out.trans hb)
      clear hown hb HO
      go_wp2
      go_roundw
      case rel => exact ⟨k + 1, by omega, by go_num, by rw [lessL_succ]; exact HO'.out, HB'.out⟩
      case measure => simp [intOf]; omega
    · obtain rfl : k = 16 := by omega
      have HO := Lib.hid hown
      have HB := Lib.hid hb
      clear hown hb
      go_wp2_with fail
      go_ret
      exact ⟨_, rfl, HO.out, HB.out⟩
end Go.Proofs.YtifnjgedohdjhaaRRR
