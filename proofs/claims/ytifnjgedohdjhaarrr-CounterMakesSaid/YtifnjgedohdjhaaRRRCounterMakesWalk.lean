/-
  Layer 4 (counter): the walk of CounterMakes.
-/
import Derived.Test.YtifnjgedohdjhaaRRRAwake4
import Derived.Test.YtifnjgedohdjhaaRRRCMakes
namespace Go.Proofs.YtifnjgedohdjhaaRRR
open Go.RowKit
set_option linter.unusedSimpArgs false
attribute [local go_sem] rowCells rowAt_drewN get_ints getE_ints set_ints size_ints rowAt_alloc rowAt_drew setRow_alloc setRow_drewN setRow_drew setCell_alloc setCell_drewN splice_upd splice_put splice_all load_vec_cut load_vecs_cut load_rights_cut load_counter store_vec store_rights store_counter eql_vec neq_vec index_vec eql_rights neq_rights eql_counter index_vecs cut_ints sub_zero
attribute [local go_sem ↓] xload_vec xstore_vec xalloc_vec xeql_vec xneq_vec xindex_vec xbuild_vec0 xload_rights xstore_rights xalloc_rights xeql_rights xneq_rights xbuild_rights0 xload_vecs xindex_vecs xload_counter xstore_counter xalloc_counter xbuild_counter0 xeql_counter xbuild_counter3
attribute [local go_sem] rowAt_setRow rowAt_setCell load_vec_cut_later load_rights_later load_counter_later Later.cell Later.frozen build3_ints
attribute [local go_sem] rn_true rn_false re_true re_false eqI_self
theorem cright_is {c : Nat → Int} {b : Bool} (h : rightC c = b) (w : World) : Calls Try.prog 8 #[.agg (ints 579 c)] w fun e w' => e = .returned (.bool b) ∧ Below w.heap.size w w' := by rw [← h]; exact cright_any c w
set_option maxRecDepth 100000 in
set_option maxHeartbeats 4000000 in
theorem counterMakes_walk (i : Int) (_hi : -9223372036854775808 ≤ i ∧ i ≤ 9223372036854775807) (l : Int) (_hl : -9223372036854775808 ≤ l ∧ l ≤ 9223372036854775807) (h : Int) (_hh : -9223372036854775808 ≤ h ∧ h ≤ 9223372036854775807) (w : World) :
    Calls Try.prog 3 #[.int .i64 i, .int .i64 l, .int .i64 h] w fun e w' => e = .returned (.bool true) ∧ Below w.heap.size w w' := by
  clear _hi _hl _hh
  have C1 := Lib.hid (fun w => new_any i l h w)
  have C2 := Lib.hid (fun w => rnew_any i l h w)
  have hE : (newE i l h = 2) ∨ (newE i l h = 0 ∧ rightC (newF i l h) = true) := by
    cases hN : newOk i l h
    · exact .inl (by unfold newE; rw [hN]; rfl)
    · exact .inr ⟨by unfold newE; rw [hN]; rfl, newF_right hN⟩
  generalize newF i l h = F at *
  generalize newE i l h = E at *
  rcases hE with rfl | ⟨rfl, hR⟩ <;> (
    go_enter Try.func3, Try.ntmps3
    go_wp2_with fail
    refine (C1.out _).mono ?_
    rintro e w1 ⟨rfl, hb1⟩
    have HB1 := Lib.hid hb1
    clear hb1
    go_wp2_with fail
    refine (C2.out _).mono ?_
    rintro e w2 ⟨rfl, hb2⟩
    have r1 : rowAt w2 w1.heap.size = some (ints 579 F, 28) := rowKeep hb2 (rowAt_alloc_at _ _ _ _ rfl)
    have HB2 := Lib.hid (bthen (below_allocS HB1.out _) hb2)
    have n1 := Nat.ne_of_lt (rowAt_lt r1)
    have n2 := rowAt_lt r1
    clear hb2
    go_upto_region 3 with fail
    refine region_seq ?_
    repeat (go_big_quiet_step ((first | (go_at_call 8; exact quiet_call (by simp) (cright_is (by assumption) _)) | (go_at_call 9; exact quiet_call (by simp) (awake4 _)))))
    refine wpQuiet_nil ?_
    intro w3 hb3
    have HB3 := Lib.hid (bthen (below_allocS HB2.out _) hb3)
    clear hb3
    go_wp2
    go_ret
    exact ⟨rfl, HB3.out⟩)
end Go.Proofs.YtifnjgedohdjhaaRRR
