/-
  Layer 3 (rights): enough, Give, Use, Move; the reference's.
-/
import Derived.Test.YtpjichkigccfnaaRFree
namespace Go.Proofs.Ytpjichkigccfnaa
set_option maxRecDepth 20000
open Go.RowKit
set_option linter.unusedSimpArgs false
attribute [local go_sem] rowCells rowAt_drewN get_ints getE_ints set_ints size_ints rowAt_alloc rowAt_drew setRow_alloc setRow_drewN setRow_drew setCell_alloc setCell_drewN splice_upd splice_all load_vec_cut load_vecs_cut load_rights_cut store_vec store_rights eql_vec neq_vec index_vec eql_rights neq_rights index_vecs cut_ints sub_zero
attribute [local go_sem ↓] xload_vec xstore_vec xalloc_vec xeql_vec xneq_vec xindex_vec xbuild_vec0 xload_rights xstore_rights xalloc_rights xeql_rights xneq_rights xbuild_rights0 xload_vecs xindex_vecs
attribute [local go_sem] rowAt_setRow rowAt_setCell load_vec_cut_later load_rights_later Later.cell Later.frozen
attribute [local go_sem] rn_true rn_false re_true re_false eqI_self

/-- Given, Used, Moved[i] of rights. -/
def giveE (r : Nat → Int) (k n : Int) : Int := growE (sub 0 r) k n
def giveF (r : Nat → Int) (k n : Int) : Nat → Int := if giveE r k n = 0 then upd 0 (growF (sub 0 r) k n) r else fun _ => 0
def enoughE (r : Nat → Int) (k n : Int) : Int := if n < 0 then 1 else if freeE r k = 0 then (if freeN r k < n then 8 else 0) else freeE r k
def useE (r : Nat → Int) (k n : Int) : Int := if enoughE r k n = 0 then growE (sub 16 r) k n else enoughE r k n
def useF (r : Nat → Int) (k n : Int) : Nat → Int := if useE r k n = 0 then upd 16 (growF (sub 16 r) k n) r else fun _ => 0
def moveAt (i k : Int) : Bool := isK i && isK k && !decide (i = k)
def moveE (r : Nat → Int) (i k n : Int) : Int := if moveAt i k then (if enoughE r i n = 0 then growE (sub (32 + i.toNat * 16) r) k n else enoughE r i n) else 1
def moveF (r : Nat → Int) (i k n : Int) : Nat → Int := if moveE r i k n = 0 then upd (32 + i.toNat * 16) (growF (sub (32 + i.toNat * 16) r) k n) r else fun _ => 0
theorem below2 {w w1 : World} {c d : Array Value} {t u : TypeId} (h : Below ((w.alloc (.cells c t)).alloc (.cells d u)).heap.size ((w.alloc (.cells c t)).alloc (.cells d u)) w1) : Below w.heap.size w w1 :=
  (((Below.refl _ _).alloc (Nat.le_refl _) _).alloc (by simp) _).trans (h.mono (by simp; omega))
end Go.Proofs.Ytpjichkigccfnaa
