/-
  Layer 14 (message): numbers put behind bytes, by a closure.
-/
import Derived.Test.YtinhaipnmmgplaaGreatZMsg1
namespace Go.Proofs.YtinhaipnmmgplaaGreat
set_option maxRecDepth 20000
open Go.RowKit
set_option linter.unusedSimpArgs false
attribute [local go_sem] rowCells rowAt_drewN get_ints getE_ints set_ints size_ints rowAt_alloc rowAt_drew setRow_alloc setRow_drewN setRow_drew setCell_alloc setCell_drewN splice_upd splice_put splice_all load_vec_cut load_vecs_cut load_rights_cut load_counter store_vec store_rights store_counter eql_vec neq_vec index_vec eql_rights neq_rights eql_counter index_vecs cut_ints sub_zero
attribute [local go_sem ↓] xload_vec xstore_vec xalloc_vec xeql_vec xneq_vec xindex_vec xbuild_vec0 xload_rights xstore_rights xalloc_rights xeql_rights xneq_rights xbuild_rights0 xload_vecs xindex_vecs xload_counter xstore_counter xalloc_counter xbuild_counter0 xeql_counter xbuild_counter3
attribute [local go_sem] rowAt_setRow rowAt_setCell load_vec_cut_later load_rights_later load_counter_later Later.cell Later.frozen build3_ints
attribute [local go_sem ↓] xload_field xstore_field xalloc_field xload_lock
attribute [local go_sem] load_field load_field_later store_field load_counter_cut load_lock_cut load_lock_later Fld.size Fld.get0 Fld.get1 Fld.get2 Fld.get586 Fld.getE0 Fld.getE1 Fld.getE2 Fld.getE586 Fld.cut_cnt Fld.cut_lock Fld.cut_all Fld.splice_all strT_size

/-- Block p holds a slice of these bytes. -/
def PB (w : World) (p B : Nat) (l : List UInt8) : Prop := ∃ A c, rowAt w p = some (#[.slice A l.length c], 39) ∧ IsBy w A l ∧ (A = none → c = 0) ∧ (∀ x, A = some x → x.block ≠ p ∧ B ≤ x.block) ∧ l.length ≤ c
theorem PB.set {w : World} {p B : Nat} {r : List UInt8} {A : Option Addr} {c : Nat} {v0 : Value} (hr : rowAt w p = some (#[v0], 39)) (hI : IsBy w A r) (hn : A = none → c = 0) (hb : ∀ x, A = some x → x.block ≠ p ∧ B ≤ x.block) (hc : r.length ≤ c) :
    PB (w.setCell ⟨p, 0, none⟩ (.slice A r.length c)) p B r := by
  refine ⟨A, c, ?_, fun i hi => ?_, hn, hb, hc⟩
  · rw [rowAt_setCell, if_pos rfl, hr]; rfl
  · obtain ⟨b, o, h1, h2⟩ := hI i hi
    exact ⟨b, o, h1, Only.cell (Only.setCell _) (hb _ h1).1 h2⟩
/-! The bytes of a want. -/
def wantB : List UInt8 := [10, 0, 2, 6, 0, 0, 0]
theorem wantB_is : catB [5, 0, 1, 3, 0, 0, 0] = wantB := by
  simp only [catB]
  rw [numB, show zig 5 = 10 by decide, uB_less (by decide), numB, show zig 0 = 0 by decide, uB_less (by decide), numB, show zig 1 = 2 by decide, uB_less (by decide), numB, show zig 3 = 6 by decide, uB_less (by decide)]
  rfl
end Go.Proofs.YtinhaipnmmgplaaGreat

/-
  Layer 14 (message): the want's bytes are read.
-/
namespace Go.Proofs.YtinhaipnmmgplaaGreat
set_option maxRecDepth 20000
open Go.RowKit
set_option linter.unusedSimpArgs false
attribute [local go_sem] rowCells rowAt_drewN get_ints getE_ints set_ints size_ints rowAt_alloc rowAt_drew setRow_alloc setRow_drewN setRow_drew setCell_alloc setCell_drewN splice_upd splice_put splice_all load_vec_cut load_vecs_cut load_rights_cut load_counter store_vec store_rights store_counter eql_vec neq_vec index_vec eql_rights neq_rights eql_counter index_vecs cut_ints sub_zero
attribute [local go_sem ↓] xload_vec xstore_vec xalloc_vec xeql_vec xneq_vec xindex_vec xbuild_vec0 xload_rights xstore_rights xalloc_rights xeql_rights xneq_rights xbuild_rights0 xload_vecs xindex_vecs xload_counter xstore_counter xalloc_counter xbuild_counter0 xeql_counter xbuild_counter3
attribute [local go_sem] rowAt_setRow rowAt_setCell load_vec_cut_later load_rights_later load_counter_later Later.cell Later.frozen build3_ints
attribute [local go_sem ↓] xload_field xstore_field xalloc_field xload_lock
attribute [local go_sem] load_field load_field_later store_field load_counter_cut load_lock_cut load_lock_later Fld.size Fld.get0 Fld.get1 Fld.get2 Fld.get586 Fld.getE0 Fld.getE1 Fld.getE2 Fld.getE586 Fld.cut_cnt Fld.cut_lock Fld.cut_all Fld.splice_all strT_size
def ptrsC (q : Nat) : Array Value := #[.pointer (some ⟨q, 0, none⟩), .pointer (some ⟨q, 1, none⟩), .pointer (some ⟨q, 2, none⟩), .pointer (some ⟨q, 3, none⟩), .pointer (some ⟨q, 4, none⟩)]
def msgK (k : Nat) : Array Value := msgC (if 0 < k then 5 else 0) 0 (if 2 < k then 1 else 0) (if 3 < k then 3 else 0) 0
theorem new_len {A : Option Addr} {c n : Nat} {l : List UInt8} {w : World} (hl : IsBy w A l) (hA : A = none → c = 0) (hlen : l.length ≤ 70368744177664) (hn : n = l.length) :
    Calls Tryz.prog 27 #[.slice A n c] w fun e w' => ∃ p, e = .returned (.pointer (some ⟨p, 0, none⟩)) ∧ Rd w' p l 0 ∧ w.heap.size ≤ p ∧ Below w.heap.size w w' := by
  subst hn
  exact new_any A c l w hl hA hlen
end Go.Proofs.YtinhaipnmmgplaaGreat
