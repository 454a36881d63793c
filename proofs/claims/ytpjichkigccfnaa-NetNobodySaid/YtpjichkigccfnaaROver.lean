/-
  Layer 3 (rights): Over; the reference's Join and Over.
-/
import Derived.Test.YtpjichkigccfnaaRJoin
import Derived.WalkMore
namespace Go.Proofs.Ytpjichkigccfnaa
set_option maxRecDepth 20000
open Go.RowKit
attribute [local go_sem] rowCells rowAt_drewN get_ints getE_ints set_ints size_ints rowAt_alloc rowAt_drew setRow_alloc setRow_drewN setRow_drew setCell_alloc setCell_drewN splice_upd splice_all load_vec_cut load_vecs_cut load_rights_cut store_vec store_rights eql_vec neq_vec index_vec eql_rights neq_rights index_vecs cut_ints sub_zero
attribute [local go_sem ↓] xload_vec xstore_vec xalloc_vec xeql_vec xneq_vec xindex_vec xbuild_vec0 xload_rights xstore_rights xalloc_rights xeql_rights xneq_rights xbuild_rights0 xload_vecs xindex_vecs
attribute [local go_sem] rowAt_setRow rowAt_setCell load_vec_cut_later load_rights_later Later.cell Later.frozen
attribute [local go_sem] rn_true rn_false re_true re_false eqI_self

def overR (a b : Nat → Int) : Bool := eqI 288 (joinV a b) a
theorem overR_iff {a b : Nat → Int} : overR a b = true ↔ ∀ i, i < 288 → b i ≤ a i := by
  unfold overR
  rw [eqI_iff]
  constructor
  · intro h i hi
    have := joinV_same.1 (h i hi)
    omega
  · intro h i hi
    have := h i hi
    exact joinV_same.2 (by omega)
theorem overR_no {a b : Nat → Int} (o : Nat) (ho : o + 16 ≤ 288) (h : overB (sub o a) (sub o b) = false) : overR a b = false := by
  cases hr : overR a b with
  | false => rfl
  | true =>
    have : overB (sub o a) (sub o b) = true := overB_iff.2 fun i hi => overR_iff.1 hr (o + i) (by omega)
    rw [this] at h; cases h
theorem overR_yes {a b : Nat → Int} (h1 : overB a b = true) (h2 : overB (sub 16 a) (sub 16 b) = true) (h3 : ∀ j, j < 16 → overB (sub (32 + j * 16) a) (sub (32 + j * 16) b) = true) : overR a b = true :=
  overR_iff.2 fun i hi => by
    by_cases c1 : i < 16
    · exact overB_iff.1 h1 i c1
    · by_cases c2 : i < 32
      · have := overB_iff.1 h2 (i - 16) (by omega)
        simp only [sub, show 16 + (i - 16) = i by omega] at this
        exact this
      · have hd : 32 + (i - 32) / 16 * 16 + (i - 32) % 16 = i := by omega
        have := overB_iff.1 (h3 ((i - 32) / 16) (by omega)) ((i - 32) % 16) (by omega)
        simp only [sub, hd] at this
        exact this
end Go.Proofs.Ytpjichkigccfnaa
