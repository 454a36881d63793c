/-
  Messages: small facts that several laws use.
-/
import Derived.Test.YtlocoieknabiaaaGreatZMSame
import Derived.Test.YtlocoieknabiaaaGreatZFew14
namespace Go.Proofs.YtlocoieknabiaaaGreat
set_option maxRecDepth 20000
open Go.RowKit
set_option linter.unusedSimpArgs false
set_option linter.unusedVariables false
attribute [local go_sem] rowCells rowAt_drewN get_ints getE_ints set_ints size_ints rowAt_alloc rowAt_drew setRow_alloc setRow_drewN setRow_drew setCell_alloc setCell_drewN splice_upd splice_put splice_all load_vec_cut load_vecs_cut load_rights_cut load_counter store_vec store_rights store_counter eql_vec neq_vec index_vec eql_rights neq_rights eql_counter index_vecs cut_ints sub_zero
attribute [local go_sem ↓] xload_vec xstore_vec xalloc_vec xeql_vec xneq_vec xindex_vec xbuild_vec0 xload_rights xstore_rights xalloc_rights xeql_rights xneq_rights xbuild_rights0 xload_vecs xindex_vecs xload_counter xstore_counter xalloc_counter xbuild_counter0 xeql_counter xbuild_counter3
attribute [local go_sem] rowAt_setRow rowAt_setCell load_vec_cut_later load_rights_later load_counter_later Later.cell Later.frozen build3_ints
attribute [local go_sem ↓] xload_field xstore_field xalloc_field xload_lock
attribute [local go_sem] load_field load_field_later store_field load_counter_cut load_lock_cut load_lock_later Fld.size Fld.get0 Fld.get1 Fld.get2 Fld.get586 Fld.getE0 Fld.getE1 Fld.getE2 Fld.getE586 Fld.cut_cnt Fld.cut_lock Fld.cut_all Fld.splice_all strT_size

theorem few14_is {m : Msg} {w : World} {b : Bool} (h : MsgOk w m) (hb : few13B m.fn m.fl m.pn m.po = b) : Calls Tryz.prog 18 #[.agg m.cells] w fun e w' => e = .returned (.bool b) ∧ Below w.heap.size w w' := by rw [← hb]; exact few14_any m w h
theorem msgW_len {m : Msg} (h : rightM m = true) : (msgW m).length ≤ 30000 := by
  have h1 := catB_len (hdL m)
  have h2 := fldsW_len (v := m.ver) (L := m.fl) m.fn fun i hi => say_right (right_say h hi)
  have h3 := right_fn h
  have h4 : (tlW m).length ≤ 100 := by
    unfold tlW
    split
    · rename_i hk
      have h5 := plan_names (right_plan h hk)
      have h6 := catB_len [m.pk, m.pa, m.pb]
      have h7 := txtW_len m.pn
      have h8 := txtW_len m.po
      simp only [List.length_cons, List.length_nil] at h6
      simp only [List.length_append]
      omega
    · simp
  have h9 : (hdL m).length = 7 := rfl
  unfold msgW
  simp only [List.length_append]
  omega
theorem reM_ok {m : Msg} {w w' : World} {B : Nat} {A' : Option Addr} {c' : Nat} {H : Nat → Option Addr × Nat} (hm : MsgOk w m) (h : RF w' B m.fl m.fn A' c' H) : MsgOk w' (reM m A' c' H) :=
  ⟨h.is.1, h.is.2.1, h.is.2.2.1, ⟨hm.big.1, hm.big.2.1, h.is.2.2.2.1⟩⟩
end Go.Proofs.YtlocoieknabiaaaGreat
