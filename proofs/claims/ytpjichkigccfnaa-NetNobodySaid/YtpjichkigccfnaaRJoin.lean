/-
  Layer 3 (rights): Join; the reference's.
-/
import Derived.Test.YtpjichkigccfnaaRMove
import Derived.Test.YtpjichkigccfnaaTail
namespace Go.Proofs.Ytpjichkigccfnaa
set_option maxRecDepth 20000
open Go.RowKit
set_option linter.unusedSimpArgs false
attribute [local go_sem] rowCells rowAt_drewN get_ints getE_ints set_ints size_ints rowAt_alloc rowAt_drew setRow_alloc setRow_drewN setRow_drew setCell_alloc setCell_drewN splice_upd splice_all load_vec_cut load_vecs_cut load_rights_cut store_vec store_rights eql_vec neq_vec index_vec eql_rights neq_rights index_vecs cut_ints sub_zero
attribute [local go_sem ↓] xload_vec xstore_vec xalloc_vec xeql_vec xneq_vec xindex_vec xbuild_vec0 xload_rights xstore_rights xalloc_rights xeql_rights xneq_rights xbuild_rights0 xload_vecs xindex_vecs
attribute [local go_sem] rowAt_setRow rowAt_setCell load_vec_cut_later load_rights_later Later.cell Later.frozen
attribute [local go_sem] rn_true rn_false re_true re_false eqI_self

/-- The join of the first m numbers. -/
def jn (a b : Nat → Int) (m : Nat) : Nat → Int := fun i => if i < m then joinV a b i else a i
theorem jn_step (a b : Nat → Int) (o : Nat) : upd o (joinV (sub o (jn a b o)) (sub o b)) (jn a b o) = jn a b (o + 16) := by
  funext i
  unfold upd jn sub
  by_cases h1 : o ≤ i
  · obtain ⟨d, rfl⟩ : ∃ d, i = o + d := ⟨i - o, by omega⟩
    by_cases h2 : d < 16
    · rw [if_pos ⟨by omega, by omega⟩, if_pos (by omega)]
      have h3 : ¬ o + d < o := by omega
      unfold joinV
      simp [Nat.add_sub_cancel_left, h3]
    · rw [if_neg (by omega), if_neg (by omega), if_neg (by omega)]
  · rw [if_neg (by omega), if_pos (by omega), if_pos (by omega)]
theorem jn_zero (a b : Nat → Int) : jn a b 0 = a := by funext i; simp [jn]
theorem jn_all (a b : Nat → Int) : ints 288 (jn a b 288) = ints 288 (joinV a b) := ints_congr fun i hi => by simp [jn, hi]
end Go.Proofs.Ytpjichkigccfnaa
