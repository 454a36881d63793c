/-
  Fields and messages that are the same.
-/
import Derived.Test.YtinhaipnmmgplaaGreatZField5
import Derived.Test.YtinhaipnmmgplaaGreatZGJ
import Derived.Test.YtinhaipnmmgplaaGreatZMDec
namespace Go.Proofs.YtinhaipnmmgplaaGreat
set_option maxRecDepth 20000
open Go.RowKit
set_option linter.unusedSimpArgs false
set_option linter.unusedVariables false
attribute [local go_sem] rowCells rowAt_drewN get_ints getE_ints set_ints size_ints rowAt_alloc rowAt_drew setRow_alloc setRow_drewN setRow_drew setCell_alloc setCell_drewN splice_upd splice_put splice_all load_vec_cut load_vecs_cut load_rights_cut load_counter store_vec store_rights store_counter eql_vec neq_vec index_vec eql_rights neq_rights eql_counter index_vecs cut_ints sub_zero
attribute [local go_sem ↓] xload_vec xstore_vec xalloc_vec xeql_vec xneq_vec xindex_vec xbuild_vec0 xload_rights xstore_rights xalloc_rights xeql_rights xneq_rights xbuild_rights0 xload_vecs xindex_vecs xload_counter xstore_counter xalloc_counter xbuild_counter0 xeql_counter xbuild_counter3
attribute [local go_sem] rowAt_setRow rowAt_setCell load_vec_cut_later load_rights_later load_counter_later Later.cell Later.frozen build3_ints
attribute [local go_sem ↓] xload_field xstore_field xalloc_field xload_lock
attribute [local go_sem] load_field load_field_later store_field load_counter_cut load_lock_cut load_lock_later Fld.size Fld.get0 Fld.get1 Fld.get2 Fld.get586 Fld.getE0 Fld.getE1 Fld.getE2 Fld.getE586 Fld.cut_cnt Fld.cut_lock Fld.cut_all Fld.splice_all strT_size

attribute [local go_sem ↓] xload_hold xstore_hold xalloc_hold
attribute [local go_sem] load_hold load_hold_later store_hold
attribute [local go_sem ↓] xbuild_lock0 xeql_lock xneq_lock xneq_counter
attribute [local go_sem] eql_lock neq_lock neq_counter
section
variable (ρ : Operand → Value) (d : Option Tmp) (T : TypeId) (p : String) (af : Array Edge) (gd : Option (Nat × Bool)) (x y : Operand) (ty' : TypeId) (w : World)
theorem xneq_hold : (execOp ρ ⟨d, .binOp .neq 87 x y ty', T, p, af, gd⟩).run Tryz.prog w = eqlAgg Tryz.prog w .neq 87 x y (ρ x) (ρ y) := rfl
end
theorem eq_hold' : EqInt Tryz.prog 2 87 (1 + (1 + (1 + (1 + (1 + 0))))) := by
  refine EqInt.struct (D := 1) Tryz.underlying87 (by kernel_rfl) (by kernel_rfl) ?_
  refine EqFields.cons (by decide) rfl (int_of (EqInt.int Tryz.underlying3) (by omega)) ?_
  refine EqFields.cons (by decide) rfl (int_of (EqInt.int Tryz.underlying3) (by omega)) ?_
  refine EqFields.cons (by decide) rfl (int_of (EqInt.int Tryz.underlying3) (by omega)) ?_
  refine EqFields.cons (by decide) rfl (int_of (EqInt.int Tryz.underlying3) (by omega)) ?_
  exact EqFields.cons (by decide) rfl (int_of (EqInt.int Tryz.underlying3) (by omega)) (EqFields.nil _)
theorem neq_hold (w : World) (x y : Operand) (f g : Nat → Int) : eqlAgg Tryz.prog w .neq 87 x y (.agg (ints 5 f)) (.agg (ints 5 g)) = .ok (.value (.bool (!eqI 5 f g))) w :=
  (eqlAgg_ints Tryz.underlying87 rfl (by kernel_rfl) (by kernel_rfl) (int_of eq_hold' (by omega)) w x y f g).2
attribute [local go_sem ↓] xneq_hold
attribute [local go_sem] neq_hold eqI_self
theorem str_neq (s : ByteArray) : (s.toList != s.toList) = false := by simp
end Go.Proofs.YtinhaipnmmgplaaGreat
