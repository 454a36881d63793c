/-
  Layer 3 (rights): the reference's Join and Over.
-/
import Derived.Test.YtpjichkigccfnaaROver
import Derived.Test.YtpjichkigccfnaaHeld
namespace Go.Proofs.Ytpjichkigccfnaa
set_option maxRecDepth 20000
open Go.RowKit
set_option linter.unusedSimpArgs false
/-- Rights of which Given and Used are told. -/
noncomputable def build2 (w : World) (u v : Value) : Result Next := ((do pure (Next.value (← Instr.build 43 #[(0, u), (1, v)])) : Sem Next)).run Try.prog w
theorem xbuild_rights2 (ρ : Operand → Value) (d : Option Tmp) (T : TypeId) (p : String) (af : Array Edge) (gd : Option (Nat × Bool)) (x y : Operand) (w : World) :
    (execOp ρ ⟨d, .build 43 #[(0, x), (1, y)], T, p, af, gd⟩).run Try.prog w = build2 w (ρ x) (ρ y) := by simp [execOp, build2]
def two (f g : Nat → Int) : Nat → Int := fun i => if i < 16 then f i else if i < 32 then g (i - 16) else 0
theorem build2_ints (w : World) (f g : Nat → Int) : build2 w (.agg (ints 16 f)) (.agg (ints 16 g)) = .ok (.value (.agg (ints 288 (two f g)))) w := by kernel_rfl
attribute [local go_sem] rowCells rowAt_drewN get_ints getE_ints set_ints size_ints rowAt_alloc rowAt_drew setRow_alloc setRow_drewN setRow_drew setCell_alloc setCell_drewN splice_upd splice_all load_vec_cut load_vecs_cut load_rights_cut store_vec store_rights eql_vec neq_vec index_vec eql_rights neq_rights index_vecs cut_ints sub_zero
attribute [local go_sem ↓] xload_vec xstore_vec xalloc_vec xeql_vec xneq_vec xindex_vec xbuild_vec0 xload_rights xstore_rights xalloc_rights xeql_rights xneq_rights xbuild_rights0 xload_vecs xindex_vecs
attribute [local go_sem] rowAt_setRow rowAt_setCell load_vec_cut_later load_rights_later Later.cell Later.frozen
attribute [local go_sem] rn_true rn_false re_true re_false eqI_self
attribute [local go_sem ↓] xbuild_rights2
attribute [local go_sem] build2_ints
def jz (a b : Nat → Int) (m : Nat) : Nat → Int := fun i => if i < m then joinV a b i else 0
theorem jz_step (a b : Nat → Int) (o : Nat) : upd o (joinV (sub o a) (sub o b)) (jz a b o) = jz a b (o + 16) := by
  funext i
  unfold upd jz sub
  by_cases h1 : o ≤ i
  · obtain ⟨d, rfl⟩ : ∃ d, i = o + d := ⟨i - o, by omega⟩
    by_cases h2 : d < 16
    · rw [if_pos ⟨by omega, by omega⟩, if_pos (by omega)]
      unfold joinV
      simp [Nat.add_sub_cancel_left]
    · rw [if_neg (by omega), if_neg (by omega), if_neg (by omega)]
  · rw [if_neg (by omega), if_pos (by omega), if_pos (by omega)]
theorem jz_two (a b : Nat → Int) : two (joinV a b) (joinV (sub 16 a) (sub 16 b)) = jz a b 32 := by
  funext i
  unfold two jz sub joinV
  by_cases h1 : i < 16
  · simp only [h1, if_true, show i < 32 by omega]
  · rw [if_neg h1]
    by_cases h2 : i < 32
    · rw [if_pos h2, if_pos h2]
      simp only [show 16 + (i - 16) = i by omega]
    · rw [if_neg h2, if_neg h2]
theorem jz_all (a b : Nat → Int) : ints 288 (jz a b 288) = ints 288 (joinV a b) := ints_congr fun i hi => by simp [jz, hi]
end Go.Proofs.Ytpjichkigccfnaa
