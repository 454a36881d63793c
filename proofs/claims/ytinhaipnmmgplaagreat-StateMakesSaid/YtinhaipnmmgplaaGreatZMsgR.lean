/-
  Layer 14 (message): whether a message may be.
-/
import Derived.Test.YtinhaipnmmgplaaGreatZMsg1
import Derived.Test.YtinhaipnmmgplaaGreatZField6
import Derived.Test.YtinhaipnmmgplaaGreatZPlan2
namespace Go.Proofs.YtinhaipnmmgplaaGreat
set_option maxRecDepth 20000
open Go.RowKit
set_option linter.unusedSimpArgs false
set_option linter.unusedVariables false
attribute [local go_sem] rowCells rowAt_drewN get_ints getE_ints set_ints size_ints rowAt_alloc rowAt_drew setRow_alloc setRow_drewN setRow_drew setCell_alloc setCell_drewN splice_upd splice_put splice_all load_vec_cut load_vecs_cut load_rights_cut load_counter store_vec store_rights store_counter eql_vec neq_vec index_vec eql_rights neq_rights eql_counter index_vecs cut_ints sub_zero
attribute [local go_sem ↓] xload_vec xstore_vec xalloc_vec xeql_vec xneq_vec xindex_vec xbuild_vec0 xload_rights xstore_rights xalloc_rights xeql_rights xneq_rights xbuild_rights0 xload_vecs xindex_vecs xload_counter xstore_counter xalloc_counter xbuild_counter0 xeql_counter xbuild_counter3
attribute [local go_sem] rowAt_setRow rowAt_setCell load_vec_cut_later load_rights_later load_counter_later Later.cell Later.frozen build3_ints
attribute [local go_sem ↓] xload_field xstore_field xalloc_field xload_lock
attribute [local go_sem] load_field load_field_later store_field load_counter_cut load_lock_cut load_lock_later Fld.size Fld.get0 Fld.get1 Fld.get2 Fld.get586 Fld.getE0 Fld.getE1 Fld.getE2 Fld.getE586 Fld.cut_cnt Fld.cut_lock Fld.cut_all Fld.splice_all strT_size

def tweenB (n a b : Int) : Bool := decide (a ≤ n) && decide (n ≤ b)
def hd1B (m : Msg) : Bool := tweenB m.kind 1 5 && tweenB m.frm 0 15 && tweenB m.to 0 15 && !decide (m.frm = m.to)
def hd2B (m : Msg) : Bool := decide (0 ≤ m.num) && isB m.num && fldsB m.fn m.fl && tweenB m.ver 1 3
def sayAllB (v : Int) (n : Nat) (L : Nat → Fld) : Bool := (List.range n).all fun i => sayB v (L i)
def zeroP (m : Msg) : Bool := decide (m.pk = 0) && m.pn.isEmpty && m.po.isEmpty && decide (m.pa = 0) && decide (m.pb = 0)
def tlB (m : Msg) : Bool := if m.yes && !decide (m.kind = 4) then false else if (decide (m.kind = 2) || decide (m.kind = 5) || decide (m.kind = 4) && !m.yes) && decide (0 < m.fn) then false else if m.kind = 2 then planB m.pk m.pn m.po m.pa m.pb else zeroP m
def rightM (m : Msg) : Bool := hd1B m && hd2B m && sayAllB m.ver m.fn m.fl && tlB m
theorem sayAll_no {v : Int} {n : Nat} {L : Nat → Fld} {i : Nat} (hi : i < n) (h : sayB v (L i) = false) : sayAllB v n L = false := by
  unfold sayAllB
  rw [List.all_eq_false]
  exact ⟨i, List.mem_range.2 hi, by rw [h]; decide⟩
theorem sayAll_yes {v : Int} {n : Nat} {L : Nat → Fld} (h : ∀ i, i < n → sayB v (L i) = true) : sayAllB v n L = true := by
  unfold sayAllB
  rw [List.all_eq_true]
  exact fun i hi => h i (List.mem_range.1 hi)
theorem planFields_at {A : Option Addr} {c n : Nat} {L : Nat → Fld} {b : Bool} (e : fldsB n L = b) {w : World} (h : FldsIs w A n L) (hn : n ≤ 9223372036854775807) : Calls Tryz.prog 14 #[.slice A n c] w fun e w' => e = .returned (.bool b) ∧ Below w.heap.size w w' := by rw [← e]; exact planFields_any A c n L w h hn
theorem saysW_at {v : Int} {F : Fld} {b : Bool} (e : sayB v F = b) {w : World} (h : FldOk w F) : Calls Tryz.prog 65 #[.int .i64 v, .agg F.cells] w fun e w' => e = .returned (.bool b) ∧ Below w.heap.size w w' := by rw [← e]; exact saysW_any v F w h
end Go.Proofs.YtinhaipnmmgplaaGreat
