/-
  Layer 14 (message): a want, and its bytes.
-/
import Derived.Test.YtinhaipnmmgplaaGreatZGG
import Derived.Test.YtinhaipnmmgplaaGreatZGF
namespace Go.Proofs.YtinhaipnmmgplaaGreat
set_option maxRecDepth 20000
open Go.RowKit
set_option linter.unusedSimpArgs false
attribute [local go_sem] rowCells rowAt_drewN get_ints getE_ints set_ints size_ints rowAt_alloc rowAt_drew setRow_alloc setRow_drewN setRow_drew setCell_alloc setCell_drewN splice_upd splice_put splice_all load_vec_cut load_vecs_cut load_rights_cut load_counter store_vec store_rights store_counter eql_vec neq_vec index_vec eql_rights neq_rights eql_counter index_vecs cut_ints sub_zero
attribute [local go_sem ↓] xload_vec xstore_vec xalloc_vec xeql_vec xneq_vec xindex_vec xbuild_vec0 xload_rights xstore_rights xalloc_rights xeql_rights xneq_rights xbuild_rights0 xload_vecs xindex_vecs xload_counter xstore_counter xalloc_counter xbuild_counter0 xeql_counter xbuild_counter3
attribute [local go_sem] rowAt_setRow rowAt_setCell load_vec_cut_later load_rights_later load_counter_later Later.cell Later.frozen build3_ints
attribute [local go_sem ↓] xload_field xstore_field xalloc_field xload_lock
attribute [local go_sem] load_field load_field_later store_field load_counter_cut load_lock_cut load_lock_later Fld.size Fld.get0 Fld.get1 Fld.get2 Fld.get586 Fld.getE0 Fld.getE1 Fld.getE2 Fld.getE586 Fld.cut_cnt Fld.cut_lock Fld.cut_all Fld.splice_all strT_size

def msg0 : Msg := ⟨0, 0, 0, 0, 0, false, none, 0, 0, fun _ => fld0, 0, [], [], 0, 0⟩
def wantM : Msg := ⟨5, 0, 1, 3, 0, false, none, 0, 0, fun _ => fld0, 0, [], [], 0, 0⟩
def msgC (k f t v n : Int) : Array Value := #[.int .i64 k, .int .i64 f, .int .i64 t, .int .i64 v, .int .i64 n, .bool false, .slice none 0 0, .int .i64 0, .string ByteArray.empty, .string ByteArray.empty, .int .i64 0, .int .i64 0]
theorem strT_nil : strT [] = ByteArray.empty := rfl
theorem planFields_nil (w : World) : Calls Tryz.prog 14 #[.slice none 0 0] w fun e w' => e = .returned (.bool true) ∧ Below w.heap.size w w' := by
  go_enter Tryz.func14, Tryz.ntmps14
  go_wp2_with fail
  go_loopw [7] (fun i w' => i = .int .i64 0 ∧ Below w.heap.size w w') (fun _ _ => 0)
  case atStart => exact ⟨rfl, Below.refl _ _⟩
  case round =>
    obtain ⟨rfl, hb⟩ := hrel
    go_wp2_with fail
    go_ret
    exact ⟨rfl, hb⟩
theorem is_at {n : Int} {b : Bool} (h : isB n = b) (w : World) : Calls Tryz.prog 43 #[.int .i64 n] w fun e w' => e = .returned (.bool b) ∧ Below w.heap.size w w' :=
  (is_any n w).mono fun _ _ ⟨h1, h2⟩ => ⟨h1.trans (by rw [h]), h2 ▸ Below.refl _ _⟩
end Go.Proofs.YtinhaipnmmgplaaGreat
