/-
  Layer 3 (rights): Free; the reference's.
-/
import Derived.Test.YtpjichkigccfnaaFree
namespace Go.Proofs.Ytpjichkigccfnaa
set_option maxRecDepth 20000
open Go.RowKit
attribute [local go_sem] rowCells rowAt_drewN get_ints getE_ints set_ints size_ints rowAt_alloc rowAt_drew setRow_alloc setRow_drewN setRow_drew setCell_alloc setCell_drewN splice_upd splice_all load_vec_cut load_vecs_cut load_rights_cut store_vec store_rights eql_vec neq_vec index_vec eql_rights neq_rights index_vecs cut_ints sub_zero
attribute [local go_sem ↓] xload_vec xstore_vec xalloc_vec xeql_vec xneq_vec xindex_vec xbuild_vec0 xload_rights xstore_rights xalloc_rights xeql_rights xneq_rights xbuild_rights0 xload_vecs xindex_vecs
attribute [local go_sem] rowAt_setRow rowAt_setCell load_vec_cut_later load_rights_later Later.cell Later.frozen
attribute [local go_sem] rn_true rn_false re_true re_false eqI_self

/-- What i moved to j. -/
def mv (r : Nat → Int) (i j : Nat) : Int := r (32 + i * 16 + j)
def inL (n : Nat) (r : Nat → Int) (k : Nat) : List Int := r k :: (List.range n).map fun j => mv r j k
theorem inL_succ (n : Nat) (r : Nat → Int) (k : Nat) : inL (n + 1) r k = inL n r k ++ [mv r n k] := by simp [inL, List.range_succ]
theorem inL_len (n : Nat) (r : Nat → Int) (k : Nat) : (inL n r k).length = n + 1 := by simp [inL]
theorem lessL_len (n : Nat) (f : Nat → Int) : (lessL n f).length = n := by simp [lessL]
/-- All that is summed. -/
def freeL (r : Nat → Int) (k : Nat) : List Int := (inL 16 r k ++ [ng (r (16 + k))]) ++ lessL 16 (mv r k)
def freeN (r : Nat → Int) (k : Int) : Int := if isK k then sumN (freeL r k.toNat) else 0
def freeE (r : Nat → Int) (k : Int) : Int := if isK k then sumE (freeL r k.toNat) else 1
theorem freeN_no {r : Nat → Int} {k : Int} (h : isK k = false) : freeN r k = 0 := by simp [freeN, h]
theorem freeE_no {r : Nat → Int} {k : Int} (h : isK k = false) : freeE r k = 1 := by simp [freeE, h]
theorem freeN_is {r : Nat → Int} {k : Nat} (h : isK (k : Int) = true) : freeN r k = sumN (freeL r k) := by simp [freeN, h]
theorem freeE_is {r : Nat → Int} {k : Nat} (h : isK (k : Int) = true) : freeE r k = sumE (freeL r k) := by simp [freeE, h]
/-- The own slice of one int. -/
theorem own_one (w : World) (x : Int) : OwnI (w.alloc (.cells #[.int .i64 x] 3)) w.heap.size (.slice (some ⟨w.heap.size, 0, none⟩) 1 1) [x] := OwnI.row (xs := [x]) (rowAt_alloc_at _ _ _ _ rfl) (by simp)
end Go.Proofs.Ytpjichkigccfnaa
