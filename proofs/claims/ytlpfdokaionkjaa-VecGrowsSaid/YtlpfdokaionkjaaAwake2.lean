/-
  Layer 2's awake.
-/
import Derived.Test.YtlpfdokaionkjaaVecSum
namespace Go.Proofs.Ytlpfdokaionkjaa
open Go.RowKit
/-- A vector that begins so, else 0. -/
def vec2 (x y : Int) : Nat → Int := fun i => if i = 0 then x else if i = 1 then y else 0
theorem xbuild_vec2 (a : Act) (d : Option Tmp) (T : TypeId) (p : String) (af : Array Edge) (gd : Option (Nat × Bool)) (x y : Int) (w : World) :
    (execOp a.eval ⟨d, .build 23 #[(0, .const (.int .i64 x)), (1, .const (.int .i64 y))], T, p, af, gd⟩).run Try.prog w = .ok (.value (.agg (ints 16 (vec2 x y)))) w := by kernel_rfl
attribute [local go_sem] rowCells rowAt_drewN get_ints getE_ints set_ints size_ints rowAt_alloc rowAt_drew setRow_alloc setRow_drewN setRow_drew setCell_alloc setCell_drewN splice_ints ext_ints0 extract_ints splice_all load_vec store_vec eql_vec neq_vec index_vec
attribute [local go_sem ↓] xload_vec xstore_vec xalloc_vec xeql_vec xneq_vec xindex_vec xbuild_vec0 xbuild_vec2
attribute [local go_sem] rowAt_setRow rowAt_setCell load_vec_later Later.cell Later.frozen
attribute [local go_sem] rn_true rn_false re_true re_false eqI_self

set_option maxHeartbeats 1000000 in
theorem awake2 (w : World) : Calls Try.prog 17 #[] w fun e w' => e = .returned (.bool true) ∧ Below w.heap.size w w' := by
  have c1 : ∀ w : World, Calls Try.prog 15 #[.agg (ints 16 (vec2 1 5)), .agg (ints 16 (vec2 3 2))] w fun e w' => e = .returned (.agg (ints 16 (vec2 3 5))) ∧ Below w.heap.size w w' := fun w =>
    (join_any _ _ w).mono fun e w' h => ⟨h.1.trans (by rw [ints_congr (show ∀ i, i < 16 → joinV (vec2 1 5) (vec2 3 2) i = vec2 3 5 i by decide)]), h.2⟩
  have c2 : ∀ w : World, Calls Try.prog 18 #[.agg (ints 16 (vec2 3 5)), .int .i64 1, .int .i64 4] w fun e w' => e = .returned (.tuple #[.agg (ints 16 (vec2 3 9)), .int .i64 0]) ∧ Below w.heap.size w w' := fun w =>
    (grow_any _ _ _ w).mono fun e w' h => ⟨h.1.trans (by rw [ints_congr (show ∀ i, i < 16 → growF (vec2 3 5) 1 4 i = vec2 3 9 i by decide), show growE (vec2 3 5) 1 4 = 0 by decide]), h.2⟩
  have c3 : ∀ w : World, Calls Try.prog 16 #[.agg (ints 16 (vec2 3 9)), .agg (ints 16 (vec2 3 5))] w fun e w' => e = .returned (.bool true) ∧ Below w.heap.size w w' := fun w =>
    (over_any _ _ w).mono fun e w' h => ⟨h.1.trans (by rw [overB_iff.2 (show ∀ i, i < 16 → vec2 3 5 i ≤ vec2 3 9 i by decide)]), h.2⟩
  have C1 := Lib.hid c1
  have C2 := Lib.hid c2
  have C3 := Lib.hid c3
  clear c1 c2 c3
  go_enter Try.func17, Try.ntmps17
  go_wp2_with fail
  refine (C1.out _).mono ?_
  rintro e w1 ⟨rfl, hb1⟩
  have HB1 := Lib.hid hb1
  clear hb1
  go_wp2_with fail
  refine (C2.out _).mono ?_
  rintro e w2 ⟨rfl, hb2⟩
  have hr1 : rowAt w2 w1.heap.size = some (ints 16 (vec2 3 5), 23) := (rowAt_below hb2 _ (by simp)).trans (by simp [go_sem])
  have hz := hb2.size
  rw [World.size_alloc] at hz
  have HB2 := Lib.hid (bthen HB1.out (((Below.refl _ _).alloc (Nat.le_refl _) _).trans (hb2.mono (by simp))))
  clear hb2
  have hne : w1.heap.size ≠ w2.heap.size := by omega
  go_wp2_with fail
  refine (C3.out _).mono ?_
  rintro e w3 ⟨rfl, hb3⟩
  have HB3 := Lib.hid hb3
  clear hb3
  go_wp2
  go_ret
  exact ⟨rfl, bthen (HB2.out.alloc HB2.out.size _) HB3.out⟩
end Go.Proofs.Ytlpfdokaionkjaa
