/-
  Few of layers 13 and 14.
-/
import Derived.Test.YtinhaipnmmgplaaGreatZGG
namespace Go.Proofs.YtinhaipnmmgplaaGreat
set_option maxRecDepth 20000
open Go.RowKit
set_option linter.unusedSimpArgs false
attribute [local go_sem] rowCells rowAt_drewN get_ints getE_ints set_ints size_ints rowAt_alloc rowAt_drew setRow_alloc setRow_drewN setRow_drew setCell_alloc setCell_drewN splice_upd splice_put splice_all load_vec_cut load_vecs_cut load_rights_cut load_counter store_vec store_rights store_counter eql_vec neq_vec index_vec eql_rights neq_rights eql_counter index_vecs cut_ints sub_zero
attribute [local go_sem ↓] xload_vec xstore_vec xalloc_vec xeql_vec xneq_vec xindex_vec xbuild_vec0 xload_rights xstore_rights xalloc_rights xeql_rights xneq_rights xbuild_rights0 xload_vecs xindex_vecs xload_counter xstore_counter xalloc_counter xbuild_counter0 xeql_counter xbuild_counter3
attribute [local go_sem] rowAt_setRow rowAt_setCell load_vec_cut_later load_rights_later load_counter_later Later.cell Later.frozen build3_ints
attribute [local go_sem ↓] xload_field xstore_field xalloc_field xload_lock
attribute [local go_sem] load_field load_field_later store_field load_counter_cut load_lock_cut load_lock_later Fld.size Fld.get0 Fld.get1 Fld.get2 Fld.get586 Fld.getE0 Fld.getE1 Fld.getE2 Fld.getE586 Fld.cut_cnt Fld.cut_lock Fld.cut_all Fld.splice_all strT_size

def planV (k : Int) (n o : List UInt8) (a b : Int) : Value := .agg #[.int .i64 k, .string (strT n), .string (strT o), .int .i64 a, .int .i64 b]
def few13B (n : Nat) (L : Nat → Fld) (pn po : List UInt8) : Bool := decide (n ≤ 8) && few7B n L && decide (pn.length ≤ 100) && decide (po.length ≤ 100)
theorem few7_is {A : Option Addr} {c n : Nat} {L : Nat → Fld} {b : Bool} (hb : few7B n L = b) {w : World} (h : FldsIs w A n L) (hn : n ≤ 9223372036854775807) : Calls Tryz.prog 10 #[.slice A n c] w fun e w' =>
    e = .returned (.bool b) ∧ Below w.heap.size w w' := by rw [← hb]; exact few7_any A c n L w h hn
theorem few13Cases (n : Nat) (L : Nat → Fld) (pn po : List UInt8) : ∃ b1 b2 b3 b4, decide ((n : Int) ≤ 8) = b1 ∧ few7B n L = b2 ∧ decide ((pn.length : Int) ≤ 100) = b3 ∧ decide ((po.length : Int) ≤ 100) = b4 ∧
    ((b1 = false ∧ few13B n L pn po = false) ∨ (b1 = true ∧ b2 = false ∧ few13B n L pn po = false) ∨ (b1 = true ∧ b2 = true ∧ b3 = false ∧ few13B n L pn po = false) ∨ (b1 = true ∧ b2 = true ∧ b3 = true ∧ b4 = few13B n L pn po)) := by
  refine ⟨_, _, _, _, rfl, rfl, rfl, rfl, ?_⟩
  have e1 : decide ((n : Int) ≤ 8) = decide (n ≤ 8) := decide_eq_decide.2 (by omega)
  have e2 : decide ((pn.length : Int) ≤ 100) = decide (pn.length ≤ 100) := decide_eq_decide.2 (by omega)
  have e3 : decide ((po.length : Int) ≤ 100) = decide (po.length ≤ 100) := decide_eq_decide.2 (by omega)
  rw [e1, e2, e3]
  unfold few13B
  cases decide (n ≤ 8) <;> cases few7B n L <;> cases decide (pn.length ≤ 100) <;> cases decide (po.length ≤ 100) <;> simp
set_option maxHeartbeats 2000000 in
theorem few13_any (A : Option Addr) (c n : Nat) (L : Nat → Fld) (k : Int) (pn po : List UInt8) (a b : Int) (w : World) (h : FldsIs w A n L) (hn : n ≤ 9223372036854775807) :
    Calls Tryz.prog 4 #[.slice A n c, planV k pn po a b] w fun e w' => e = .returned (.bool (few13B n L pn po)) ∧ Below w.heap.size w w' := by
  have H := Lib.hid (h.below ((Below.refl _ _).alloc (Nat.le_refl _) (.cells #[.int .i64 k, .string (strT pn), .string (strT po), .int .i64 a, .int .i64 b] 25)))
  obtain ⟨b1, b2, b3, b4, e1, e2, e3, e4, HC⟩ := few13Cases n L pn po
  generalize few13B n L pn po = R at *
  have E2 := Lib.hid e2
  clear e2 h
  rcases HC with ⟨rfl, rfl⟩ | ⟨rfl, rfl, rfl⟩ | ⟨rfl, rfl, rfl, rfl⟩ | ⟨rfl, rfl, rfl, rfl⟩
  all_goals
    unfold planV
    go_enter Tryz.func4, Tryz.ntmps4
    go_upto_region 1 with fail
    refine region_seq ?_
    repeat (go_big_quiet_step ((first | (go_at_call 10; exact quiet_call (by simp) (few7_is E2.out (FldsIs.below H.out (Later.below _)) hn)))))
    refine wpQuiet_nil ?_
    intro w1 hb1
    have HB := Lib.hid (bthen (below_allocS (Below.refl _ _) _) hb1)
    clear hb1
    go_wp2
    go_ret
    exact ⟨by first | rfl | simp [*], HB.out⟩
end Go.Proofs.YtinhaipnmmgplaaGreat
