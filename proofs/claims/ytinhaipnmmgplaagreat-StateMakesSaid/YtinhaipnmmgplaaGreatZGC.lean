/-
  Layer 2 (vec) and its reference: what each function does.
-/
import Derived.Test.YtinhaipnmmgplaaGreatZGB
import Derived.Test.YtinhaipnmmgplaaGreatZGA
import Derived.WalkMore
namespace Go.Proofs.YtinhaipnmmgplaaGreat
set_option maxRecDepth 20000
open Go.RowKit

/-! The type api.Vec: 16 ints. -/
section
variable (ρ : Operand → Value) (d : Option Tmp) (T : TypeId) (p : String) (af : Array Edge) (gd : Option (Nat × Bool)) (x y : Operand) (ty' : TypeId) (w : World)
theorem xstore_vec : (execOp ρ ⟨d, .store 48 x y, T, p, af, gd⟩).run Tryz.prog w = storeAgg Tryz.prog w 48 (ρ x) (ρ y) := rfl
theorem xload_vec : (execOp ρ ⟨d, .load 48 x, T, p, af, gd⟩).run Tryz.prog w = loadAgg Tryz.prog w 48 (ρ x) := rfl
theorem xalloc_vec : (execOp ρ ⟨d, .alloc 48, T, p, af, gd⟩).run Tryz.prog w = .ok (.value (.pointer (some ⟨w.heap.size, 0, none⟩))) (w.alloc (.cells (ints 16 fun _ => 0) 48)) :=
  (exec_alloc ..).trans (allocAgg_ok (by kernel_rfl))
theorem xindex_vec : (execOp ρ ⟨d, .index 48 x y, T, p, af, gd⟩).run Tryz.prog w = indexAgg Tryz.prog w 48 (ρ x) (ρ y) := rfl
theorem xbuild_vec0 : (execOp ρ ⟨d, .build 48 #[], T, p, af, gd⟩).run Tryz.prog w = .ok (.value (.agg (ints 16 fun _ => 0))) w := by kernel_rfl
theorem xeql_vec : (execOp ρ ⟨d, .binOp .eql 48 x y ty', T, p, af, gd⟩).run Tryz.prog w = eqlAgg Tryz.prog w .eql 48 x y (ρ x) (ρ y) := rfl
theorem xneq_vec : (execOp ρ ⟨d, .binOp .neq 48 x y ty', T, p, af, gd⟩).run Tryz.prog w = eqlAgg Tryz.prog w .neq 48 x y (ρ x) (ρ y) := rfl
end
theorem load_vec (w : World) (g o : Nat) (h : (rowAt w g).isSome = true) (hn : o + 16 ≤ (rowCells w g).size) :
    loadAgg Tryz.prog w 48 (.pointer (some ⟨g, o, none⟩)) = .ok (.value (.agg ((rowCells w g).extract o (o + 16)))) w := loadAgg_row Tryz.underlying48 rfl (by kernel_rfl) h hn
theorem load_vec_later {B : Nat} {w : World} (x : Later B w) (g o : Nat) (hg : g < B) :
    loadAgg Tryz.prog x.wd 48 (.pointer (some ⟨g, o, none⟩)) = if (rowAt w g).isSome = true ∧ o + 16 ≤ (rowCells w g).size then .ok (.value (.agg ((rowCells w g).extract o (o + 16)))) x.wd else stuckLoad Tryz.prog x.wd 48 g o :=
  loadAgg_later x Tryz.underlying48 rfl (by kernel_rfl) hg
theorem store_vec (w : World) (g o : Nat) (f : Nat → Int) (h : (rowAt w g).isSome = true) (hn : o + 16 ≤ (rowCells w g).size) :
    storeAgg Tryz.prog w 48 (.pointer (some ⟨g, o, none⟩)) (.agg (ints 16 f)) = .ok .skip (w.setRow g (splice (rowCells w g) o (ints 16 f))) :=
  storeAgg_row (by rw [size_ints]; kernel_rfl) (one_ints _ _) h (by rw [size_ints]; exact hn)
theorem index_vec (w : World) (f : Nat → Int) (k : Nat) (h : k < 16) : indexAgg Tryz.prog w 48 (.agg (ints 16 f)) (.int .i64 (k : Int)) = .ok (.value (.int .i64 (f k))) w :=
  indexAgg_one (ints 16 f) Tryz.underlying48 Tryz.underlying3 rfl (by kernel_rfl) (by omega) (by omega) (by rw [Int.toNat_natCast]; exact get_ints 16 f k h)
theorem int_of {P : Program} {D D' n : Nat} {t : TypeId} (h : EqInt P D t n) (hd : D ≤ D') : EqInt P D' t n := fun d hd' => h d (Nat.le_trans hd hd')
theorem eq_vec : EqInt Tryz.prog 2 48 (16 * 1) := EqInt.array Tryz.underlying48 (by kernel_rfl) (EqInt.int Tryz.underlying3) (by kernel_rfl)
theorem eql_vec (w : World) (x y : Operand) (f g : Nat → Int) : eqlAgg Tryz.prog w .eql 48 x y (.agg (ints 16 f)) (.agg (ints 16 g)) = .ok (.value (.bool (eqI 16 f g))) w :=
  (eqlAgg_ints Tryz.underlying48 rfl (by kernel_rfl) (by kernel_rfl) (int_of eq_vec (by omega)) w x y f g).1
theorem neq_vec (w : World) (x y : Operand) (f g : Nat → Int) : eqlAgg Tryz.prog w .neq 48 x y (.agg (ints 16 f)) (.agg (ints 16 g)) = .ok (.value (.bool (!eqI 16 f g))) w :=
  (eqlAgg_ints Tryz.underlying48 rfl (by kernel_rfl) (by kernel_rfl) (int_of eq_vec (by omega)) w x y f g).2
end Go.Proofs.YtinhaipnmmgplaaGreat

/-
  Layer 2 (vec): Join, Over.
-/
namespace Go.Proofs.YtinhaipnmmgplaaGreat
set_option maxRecDepth 20000
open Go.RowKit
attribute [local go_sem] rowCells rowAt_drewN get_ints getE_ints set_ints size_ints rowAt_alloc rowAt_drew setRow_alloc setRow_drewN setRow_drew setCell_alloc setCell_drewN splice_ints ext_ints0 extract_ints splice_all load_vec store_vec eql_vec neq_vec index_vec
attribute [local go_sem ↓] xload_vec xstore_vec xalloc_vec xeql_vec xneq_vec xindex_vec xbuild_vec0
attribute [local go_sem] rowAt_setRow rowAt_setCell load_vec_later Later.cell Later.frozen
/-- The join. -/
def joinV (f g : Nat → Int) : Nat → Int := fun i => if f i < g i then g i else f i
/-- Over. -/
def overB (f g : Nat → Int) : Bool := eqI 16 (joinV f g) f
theorem joinV_same {f g : Nat → Int} {i : Nat} : joinV f g i = f i ↔ ¬ f i < g i := by
  unfold joinV
  split <;> omega
theorem overB_iff {f g : Nat → Int} : overB f g = true ↔ ∀ i, i < 16 → g i ≤ f i := by
  unfold overB
  rw [eqI_iff]
  constructor
  · intro h i hi
    have := joinV_same.1 (h i hi)
    omega
  · intro h i hi
    have := h i hi
    exact joinV_same.2 (by omega)
/-- A vector that may be. -/
def rightV (f : Nat → Int) : Bool := (List.range 16).all fun i => decide (0 ≤ f i) && isB (f i)
theorem rightV_iff {f : Nat → Int} : rightV f = true ↔ ∀ i, i < 16 → 0 ≤ f i ∧ f i ≤ 1099511627776 := by
  unfold rightV
  rw [List.all_eq_true]
  simp only [List.mem_range, Bool.and_eq_true, decide_eq_true_eq, isB_iff]
  exact ⟨fun h i hi => ⟨(h i hi).1, (h i hi).2.2⟩, fun h i hi => ⟨(h i hi).1, by have := (h i hi).1; omega, (h i hi).2⟩⟩
theorem rightV_false {f : Nat → Int} {k : Nat} (hk : k < 16) (h : ¬ (0 ≤ f k ∧ f k ≤ 1099511627776)) : rightV f = false := by
  cases hr : rightV f with
  | false => rfl
  | true => exact absurd (rightV_iff.1 hr k hk) h
set_option maxHeartbeats 1000000 in
theorem right_any (f : Nat → Int) (w : World) : Calls Tryz.prog 92 #[.agg (ints 16 f)] w fun e w' => e = .returned (.bool (rightV f)) ∧ Below w.heap.size w w' := by
  go_enter Tryz.func92, Tryz.ntmps92
  go_wp2
  go_loop [6] (fun i => ∃ k : Nat, k ≤ 16 ∧ i = .int .i64 k ∧ ∀ j, j < k → 0 ≤ f j ∧ f j ≤ 1099511627776) (fun i => 16 - (intOf i).toNat)
  case atStart => exact ⟨0, by omega, rfl, fun j hj => by omega⟩
  case round =>
    obtain ⟨k, hk, rfl, hall⟩ := hrel
    have HA := Lib.hid hall
    clear hall
    by_cases hlt : k < 16
    · by_cases h0 : f k < 0
      · go_wp2
        go_ret
        exact ⟨by rw [rightV_false hlt (by omega)]; rfl, (Below.refl _ _).alloc (Nat.le_refl _) _⟩
      · cases h1 : isB (f k)
        · go_wp2_with (go_at_call 43; refine (is_any _ _).mono ?_; rintro e w' ⟨rfl, rfl⟩)
          go_ret
          exact ⟨by rw [rightV_false hlt (by have := isB_not.1 h1; omega)]; rfl, (Below.refl _ _).alloc (Nat.le_refl _) _⟩
        · go_wp2_with (go_at_call 43; refine (is_any _ _).mono ?_; rintro e w' ⟨rfl, rfl⟩)
          go_round
          case rel =>
            refine ⟨k + 1, by omega, by go_num, fun j hj => ?_⟩
            by_cases hjk : j = k
            · rw [hjk]; have := isB_iff.1 h1; omega
            · exact HA.out j (by omega)
          case measure => simp [intOf]; omega
    · go_wp2
      go_ret
      exact ⟨by rw [rightV_iff.2 fun i hi => HA.out i (by omega)]; rfl, (Below.refl _ _).alloc (Nat.le_refl _) _⟩
/-- What grows. -/
def growAt (k n : Int) : Bool := decide (0 ≤ k) && decide (k < 16) && decide (0 ≤ n)
def growF (f : Nat → Int) (k n : Int) : Nat → Int := fun i => if growAt k n && addOk (f k.toNat) n then (if i = k.toNat then f i + n else f i) else 0
def growE (f : Nat → Int) (k n : Int) : Int := if growAt k n then re (addOk (f k.toNat) n) else 1
attribute [local go_sem] rn_true rn_false re_true re_false
theorem growAt_iff {k n : Int} : growAt k n = true ↔ 0 ≤ k ∧ k < 16 ∧ 0 ≤ n := by simp [growAt, and_assoc]
theorem growAt_false {k n : Int} (h : ¬ (0 ≤ k ∧ k < 16 ∧ 0 ≤ n)) : growAt k n = false := by
  cases hr : growAt k n with
  | false => rfl
  | true => exact absurd (growAt_iff.1 hr) h
theorem growF_bad {f : Nat → Int} {k n : Int} (h : growAt k n = false) : growF f k n = fun _ => 0 := by funext i; simp [growF, h]
theorem growF_no {f : Nat → Int} {k n : Int} (h : addOk (f k.toNat) n = false) : growF f k n = fun _ => 0 := by funext i; simp [growF, h]
theorem growF_to {f : Nat → Int} {k n : Int} (h : growAt k n = true) (h2 : addOk (f k.toNat) n = true) : growF f k n = fun i => if i = k.toNat then f i + n else f i := by funext i; simp [growF, h, h2]
theorem growE_bad {f : Nat → Int} {k n : Int} (h : growAt k n = false) : growE f k n = 1 := by simp [growE, h]
theorem growE_at {f : Nat → Int} {k n : Int} (h : growAt k n = true) : growE f k n = re (addOk (f k.toNat) n) := by simp [growE, h]
end Go.Proofs.YtinhaipnmmgplaaGreat

/-
  Layer 2 (vec): Sum; the reference.
-/
namespace Go.Proofs.YtinhaipnmmgplaaGreat
set_option maxRecDepth 20000
open Go.RowKit
attribute [local go_sem] rowCells rowAt_drewN get_ints getE_ints set_ints size_ints rowAt_alloc rowAt_drew setRow_alloc setRow_drewN setRow_drew setCell_alloc setCell_drewN splice_ints ext_ints0 extract_ints splice_all load_vec store_vec eql_vec neq_vec index_vec
attribute [local go_sem ↓] xload_vec xstore_vec xalloc_vec xeql_vec xneq_vec xindex_vec xbuild_vec0
attribute [local go_sem] rowAt_setRow rowAt_setCell load_vec_later Later.cell Later.frozen
attribute [local go_sem] rn_true rn_false re_true re_false
/-- The cells as a list. -/
def lst (f : Nat → Int) : List Int := (List.range 16).map f
theorem lst_len (f : Nat → Int) : (lst f).length = 16 := rfl
theorem lst_get (f : Nat → Int) (i : Nat) (h : i < 16) : (lst f).getD i 0 = f i := by simp [lst, List.getD, h]
theorem isInts_lst {w : World} {g : Nat} {t : TypeId} {f : Nat → Int} (h : rowAt w g = some (ints 16 f, t)) : IsInts w (some ⟨g, 0, none⟩) (lst f) :=
  isInts_row h fun i hi => by
    rw [lst_len] at hi
    rw [Nat.zero_add, get_ints 16 f i hi, lst_get f i hi]
set_option maxHeartbeats 400000 in
theorem vsum_any (f : Nat → Int) (w : World) : Calls Tryz.prog 93 #[.agg (ints 16 f)] w fun e w' =>
    e = .returned (.tuple #[.int .i64 (sumN (lst f)), .int .i64 (sumE (lst f))]) ∧ Below w.heap.size w w' := by
  have c := sum_any (some ⟨w.heap.size, 0, none⟩) 16 (lst f) (w.alloc (.cells (ints 16 f) 48)) (isInts_lst (rowAt_alloc_at _ _ _ _ rfl)) (by rw [lst_len]; omega)
  rw [lst_len] at c
  have C := Lib.hid c
  clear c
  go_enter Tryz.func93, Tryz.ntmps93
  go_wp2_with fail
  refine (C.out).mono ?_
  rintro e w1 ⟨rfl, hb1⟩
  have HB := Lib.hid (((Below.refl _ _).alloc (Nat.le_refl _) _).trans (hb1.mono (by simp)))
  clear hb1 C
  go_wp2
  go_ret2
  exact ⟨rfl, HB.out⟩
set_option maxHeartbeats 400000 in
theorem rvsum_any (f : Nat → Int) (w : World) : Calls Tryz.prog 59 #[.agg (ints 16 f)] w fun e w' =>
    e = .returned (.tuple #[.int .i64 (sumN (lst f)), .int .i64 (sumE (lst f))]) ∧ Below w.heap.size w w' := by
  have c := rsum_any (some ⟨w.heap.size, 0, none⟩) 16 (lst f) (w.alloc (.cells (ints 16 f) 48)) (isInts_lst (rowAt_alloc_at _ _ _ _ rfl)) (by rw [lst_len]; omega)
  rw [lst_len] at c
  have C := Lib.hid c
  clear c
  go_enter Tryz.func59, Tryz.ntmps59
  go_wp2_with fail
  refine (C.out).mono ?_
  rintro e w1 ⟨rfl, rfl⟩
  clear C
  go_wp2
  go_ret2
  exact ⟨rfl, (Below.refl _ _).alloc (Nat.le_refl _) _⟩
set_option maxHeartbeats 1000000 in
theorem rright_any (f : Nat → Int) (w : World) : Calls Tryz.prog 80 #[.agg (ints 16 f)] w fun e w' => e = .returned (.bool (rightV f)) ∧ Below w.heap.size w w' := by
  go_enter Tryz.func80, Tryz.ntmps80
  go_wp2
  go_loop [3] (fun i => ∃ k : Nat, k ≤ 16 ∧ i = .int .i64 k ∧ ∀ j, j < k → 0 ≤ f j ∧ f j ≤ 1099511627776) (fun i => 16 - (intOf i).toNat)
  case atStart => exact ⟨0, by omega, rfl, fun j hj => by omega⟩
  case round =>
    obtain ⟨k, hk, rfl, hall⟩ := hrel
    have HA := Lib.hid hall
    clear hall
    by_cases hlt : k < 16
    · by_cases h0 : f k < 0
      · go_wp2
        go_ret
        exact ⟨by rw [rightV_false hlt (by omega)]; rfl, (Below.refl _ _).alloc (Nat.le_refl _) _⟩
      · by_cases h1 : f k ≤ 1099511627776
        · go_wp2
          go_round
          case rel =>
            refine ⟨k + 1, by omega, by go_num, fun j hj => ?_⟩
            by_cases hjk : j = k
            · rw [hjk]; omega
            · exact HA.out j (by omega)
          case measure => simp [intOf]; omega
        · go_wp2
          go_ret
          exact ⟨by rw [rightV_false hlt (by omega)]; rfl, (Below.refl _ _).alloc (Nat.le_refl _) _⟩
    · go_wp2
      go_ret
      exact ⟨by rw [rightV_iff.2 fun i hi => HA.out i (by omega)]; rfl, (Below.refl _ _).alloc (Nat.le_refl _) _⟩
end Go.Proofs.YtinhaipnmmgplaaGreat

/-
  The type api.Rights: 288 ints. Slices of ints that a call makes by append.
-/
namespace Go.Proofs.YtinhaipnmmgplaaGreat
set_option maxRecDepth 20000
open Go.RowKit

section
variable (ρ : Operand → Value) (d : Option Tmp) (T : TypeId) (p : String) (af : Array Edge) (gd : Option (Nat × Bool)) (x y : Operand) (ty' : TypeId) (w : World)
theorem xstore_rights : (execOp ρ ⟨d, .store 51 x y, T, p, af, gd⟩).run Tryz.prog w = storeAgg Tryz.prog w 51 (ρ x) (ρ y) := rfl
theorem xload_rights : (execOp ρ ⟨d, .load 51 x, T, p, af, gd⟩).run Tryz.prog w = loadAgg Tryz.prog w 51 (ρ x) := rfl
theorem xalloc_rights : (execOp ρ ⟨d, .alloc 51, T, p, af, gd⟩).run Tryz.prog w = .ok (.value (.pointer (some ⟨w.heap.size, 0, none⟩))) (w.alloc (.cells (ints 288 fun _ => 0) 51)) :=
  (exec_alloc ..).trans (allocAgg_ok (by kernel_rfl))
theorem xbuild_rights0 : (execOp ρ ⟨d, .build 51 #[], T, p, af, gd⟩).run Tryz.prog w = .ok (.value (.agg (ints 288 fun _ => 0))) w := by kernel_rfl
theorem xeql_rights : (execOp ρ ⟨d, .binOp .eql 51 x y ty', T, p, af, gd⟩).run Tryz.prog w = eqlAgg Tryz.prog w .eql 51 x y (ρ x) (ρ y) := rfl
theorem xneq_rights : (execOp ρ ⟨d, .binOp .neq 51 x y ty', T, p, af, gd⟩).run Tryz.prog w = eqlAgg Tryz.prog w .neq 51 x y (ρ x) (ρ y) := rfl
theorem xload_vecs : (execOp ρ ⟨d, .load 49 x, T, p, af, gd⟩).run Tryz.prog w = loadAgg Tryz.prog w 49 (ρ x) := rfl
theorem xindex_vecs : (execOp ρ ⟨d, .index 49 x y, T, p, af, gd⟩).run Tryz.prog w = indexAgg Tryz.prog w 49 (ρ x) (ρ y) := rfl
end
/-- 16 cells from o on. -/
def cut (c : Array Value) (o n : Nat) : Array Value := c.extract o (o + n)
def sub (o : Nat) (r : Nat → Int) : Nat → Int := fun i => r (o + i)
def upd (o : Nat) (v r : Nat → Int) : Nat → Int := fun i => if o ≤ i ∧ i < o + 16 then v (i - o) else r i
theorem cut_ints (m n o : Nat) (r : Nat → Int) (h : o + n ≤ m) : cut (ints m r) o n = ints n (sub o r) := extract_ints m r o n h
theorem sub_zero (r : Nat → Int) : sub 0 r = r := by funext i; simp [sub]
theorem sub_sub (o q : Nat) (r : Nat → Int) : sub o (sub q r) = sub (q + o) r := by funext i; simp [sub, Nat.add_assoc]
theorem upd_at (o : Nat) (v r : Nat → Int) (i : Nat) (h : i < 16) : upd o v r (o + i) = v i := by
  unfold upd
  rw [if_pos (by omega), Nat.add_sub_cancel_left]
theorem upd_past (o : Nat) (v r : Nat → Int) (i : Nat) (h : i < o ∨ o + 16 ≤ i) : upd o v r i = r i := by
  unfold upd
  rw [if_neg (by omega)]
theorem splice_upd (n o : Nat) (v r : Nat → Int) (h : o + 16 ≤ n) : splice (ints n r) o (ints 16 v) = ints n (upd o v r) := splice_ints n 16 o r v h
theorem load_vec_cut (w : World) (g o : Nat) (h : (rowAt w g).isSome = true) (hn : o + 16 ≤ (rowCells w g).size) :
    loadAgg Tryz.prog w 48 (.pointer (some ⟨g, o, none⟩)) = .ok (.value (.agg (cut (rowCells w g) o 16))) w := load_vec w g o h hn
theorem load_vecs_cut (w : World) (g o : Nat) (h : (rowAt w g).isSome = true) (hn : o + 256 ≤ (rowCells w g).size) :
    loadAgg Tryz.prog w 49 (.pointer (some ⟨g, o, none⟩)) = .ok (.value (.agg (cut (rowCells w g) o 256))) w := loadAgg_row Tryz.underlying49 rfl (by kernel_rfl) h hn
theorem load_rights_cut (w : World) (g o : Nat) (h : (rowAt w g).isSome = true) (hn : o + 288 ≤ (rowCells w g).size) :
    loadAgg Tryz.prog w 51 (.pointer (some ⟨g, o, none⟩)) = .ok (.value (.agg (cut (rowCells w g) o 288))) w := loadAgg_row Tryz.underlying51 rfl (by kernel_rfl) h hn
theorem store_rights (w : World) (g o : Nat) (f : Nat → Int) (h : (rowAt w g).isSome = true) (hn : o + 288 ≤ (rowCells w g).size) :
    storeAgg Tryz.prog w 51 (.pointer (some ⟨g, o, none⟩)) (.agg (ints 288 f)) = .ok .skip (w.setRow g (splice (rowCells w g) o (ints 288 f))) :=
  storeAgg_row (by rw [size_ints]; kernel_rfl) (one_ints _ _) h (by rw [size_ints]; exact hn)
theorem load_vec_cut_later {B : Nat} {w : World} (x : Later B w) (g o : Nat) (hg : g < B) :
    loadAgg Tryz.prog x.wd 48 (.pointer (some ⟨g, o, none⟩)) = if (rowAt w g).isSome = true ∧ o + 16 ≤ (rowCells w g).size then .ok (.value (.agg (cut (rowCells w g) o 16))) x.wd else stuckLoad Tryz.prog x.wd 48 g o :=
  loadAgg_later x Tryz.underlying48 rfl (by kernel_rfl) hg
theorem load_rights_later {B : Nat} {w : World} (x : Later B w) (g o : Nat) (hg : g < B) :
    loadAgg Tryz.prog x.wd 51 (.pointer (some ⟨g, o, none⟩)) = if (rowAt w g).isSome = true ∧ o + 288 ≤ (rowCells w g).size then .ok (.value (.agg (cut (rowCells w g) o 288))) x.wd else stuckLoad Tryz.prog x.wd 51 g o :=
  loadAgg_later x Tryz.underlying51 rfl (by kernel_rfl) hg
theorem index_vecs (w : World) (f : Nat → Int) (k : Nat) (h : k < 16) : indexAgg Tryz.prog w 49 (.agg (ints 256 f)) (.int .i64 (k : Int)) = .ok (.value (.agg (ints 16 (sub (k * 16) f)))) w := by
  have := indexAgg_agg (P := Tryz.prog) (w := w) (n := 16) (k := .i64) (i := (k : Int)) (ints 256 f) Tryz.underlying49 Tryz.underlying48 rfl (by kernel_rfl) (by omega) (by omega)
  rw [Int.toNat_natCast] at this
  rw [this]
  exact congrArg (fun c => Result.ok (Next.value (.agg c)) w) (extract_ints 256 f (k * 16) 16 (by omega))
theorem eq_vecs : EqInt Tryz.prog 3 49 (16 * (16 * 1)) := EqInt.array Tryz.underlying49 (by kernel_rfl) eq_vec (by kernel_rfl)
theorem eq_rights' : EqInt Tryz.prog 4 51 (16 + (16 + (16 * (16 * 1) + 0))) := by
  refine EqInt.struct (D := 3) Tryz.underlying51 (by kernel_rfl) (by kernel_rfl) ?_
  refine EqFields.cons (by decide) rfl (int_of eq_vec (by omega)) ?_
  refine EqFields.cons (by decide) rfl (int_of eq_vec (by omega)) ?_
  exact EqFields.cons (by decide) rfl eq_vecs (EqFields.nil _)
theorem eq_rights : EqInt Tryz.prog 4 51 288 := by
  have e : 16 + (16 + (16 * (16 * 1) + 0)) = 288 := by decide
  rw [← e]
  exact eq_rights'
theorem eql_rights (w : World) (x y : Operand) (f g : Nat → Int) : eqlAgg Tryz.prog w .eql 51 x y (.agg (ints 288 f)) (.agg (ints 288 g)) = .ok (.value (.bool (eqI 288 f g))) w :=
  (eqlAgg_ints Tryz.underlying51 rfl (by kernel_rfl) (by kernel_rfl) (int_of eq_rights (by omega)) w x y f g).1
theorem neq_rights (w : World) (x y : Operand) (f g : Nat → Int) : eqlAgg Tryz.prog w .neq 51 x y (.agg (ints 288 f)) (.agg (ints 288 g)) = .ok (.value (.bool (!eqI 288 f g))) w :=
  (eqlAgg_ints Tryz.underlying51 rfl (by kernel_rfl) (by kernel_rfl) (int_of eq_rights (by omega)) w x y f g).2

/-! Append, one int at a time. -/
theorem OwnI.grown {w w' : World} {base : Nat} {v : Value} {xs : List Int} (h : OwnI w base v xs) (hb : base ≤ w.heap.size) (hg : w.grownBy w' v.ownBlock) : Below base w w' := by
  refine ⟨hg.os, hg.tape, hg.output, hg.size, fun k hk => hg.block k (by omega) ?_⟩
  rcases h.2 with ⟨rfl, _⟩ | ⟨g, cap, cur, rfl, hbg, _⟩
  · simp [Value.ownBlock]
  · simp [Value.ownBlock]; omega
theorem OwnI.alloc {w : World} {base : Nat} {v : Value} {xs : List Int} (h : OwnI w base v xs) (o : Obj) : OwnI (w.alloc o) base v xs := h.below ((Below.refl _ _).alloc (Nat.le_refl _) _)
theorem isInts_one (w : World) (x : Int) : IsInts (w.alloc (.cells #[.int .i64 x] 3)) (some ⟨w.heap.size, 0, none⟩) [x] :=
  isInts_row (rowAt_alloc_at _ _ _ _ rfl) fun i hi => by
    obtain rfl : i = 0 := by simpa using hi
    rfl
/-- append of one int, just laid, to a slice of the call's own. -/
theorem wl_append_one {ops : Array Oper} {rest : List Oper} {o : Oper} {a : Act} {w : World} {Q : Exit → Act → World → Prop} (hgd : o.guard = none) (s x : Operand)
    (ho : o.op = .call { callee := .builtin .append, args := #[s, x], argTypes := #[94, 94] }) (base : Nat) (v : Value) (xs : List Int) (y : Int)
    (hown : OwnI w base v xs) (hs : a.eval s = v) {q : Nat} (hx : a.eval x = .slice (some ⟨q, 0, none⟩) 1 1) (hq : q = w.heap.size) (hlen : xs.length ≤ 17592186044415) (hbase : base ≤ w.heap.size)
    (h : ∀ v' w', OwnI w' base v' (xs ++ [y]) → Below base w w' → wpList Tryz.prog ops Q rest (a.put o.dst v') w') : wpList Tryz.prog ops Q (o :: rest) a (w.alloc (.cells #[.int .i64 y] 3)) :=
  by
  subst hq
  exact wl_append_ints hgd s x ho base v xs [y] (some ⟨w.heap.size, 0, none⟩) 1 hs (hown.alloc _) hx (isInts_one w y) (fun h => by cases h) (by simp; omega) (by simp; omega) fun v' w' h1 h2 =>
    h v' w' h1 (((Below.refl _ _).alloc hbase _).trans ((hown.alloc _).grown (by simp; omega) h2))
end Go.Proofs.YtinhaipnmmgplaaGreat

/-
  Layer 3 (rights): less, is, Free, Total; the reference's.
-/
namespace Go.Proofs.YtinhaipnmmgplaaGreat
set_option maxRecDepth 20000
open Go.RowKit
attribute [local go_sem] rowCells rowAt_drewN get_ints getE_ints set_ints size_ints rowAt_alloc rowAt_drew setRow_alloc setRow_drewN setRow_drew setCell_alloc setCell_drewN splice_upd splice_all load_vec_cut load_vecs_cut load_rights_cut store_vec store_rights eql_vec neq_vec index_vec eql_rights neq_rights index_vecs cut_ints sub_zero
attribute [local go_sem ↓] xload_vec xstore_vec xalloc_vec xeql_vec xneq_vec xindex_vec xbuild_vec0 xload_rights xstore_rights xalloc_rights xeql_rights xneq_rights xbuild_rights0 xload_vecs xindex_vecs
attribute [local go_sem] rowAt_setRow rowAt_setCell load_vec_cut_later load_rights_later Later.cell Later.frozen
attribute [local go_sem] rn_true rn_false re_true re_false eqI_self

/-- A number turned about. -/
def ng (x : Int) : Int := wrap64 (-x)
def isK (k : Int) : Bool := decide (0 ≤ k) && decide (k < 16)
theorem isK_iff {k : Int} : isK k = true ↔ 0 ≤ k ∧ k < 16 := by simp [isK]
theorem isK_false {k : Int} (h : ¬ (0 ≤ k ∧ k < 16)) : isK k = false := by
  cases hr : isK k with
  | false => rfl
  | true => exact absurd (isK_iff.1 hr) h
def lessL (n : Nat) (f : Nat → Int) : List Int := (List.range n).map fun i => ng (f i)
theorem lessL_succ (n : Nat) (f : Nat → Int) : lessL (n + 1) f = lessL n f ++ [ng (f n)] := by simp [lessL, List.range_succ]
end Go.Proofs.YtinhaipnmmgplaaGreat

/-
  Layer 3 (rights): Free; the reference's.
-/
namespace Go.Proofs.YtinhaipnmmgplaaGreat
set_option maxRecDepth 20000
open Go.RowKit
attribute [local go_sem] rowCells rowAt_drewN get_ints getE_ints set_ints size_ints rowAt_alloc rowAt_drew setRow_alloc setRow_drewN setRow_drew setCell_alloc setCell_drewN splice_upd splice_all load_vec_cut load_vecs_cut load_rights_cut store_vec store_rights eql_vec neq_vec index_vec eql_rights neq_rights index_vecs cut_ints sub_zero
attribute [local go_sem ↓] xload_vec xstore_vec xalloc_vec xeql_vec xneq_vec xindex_vec xbuild_vec0 xload_rights xstore_rights xalloc_rights xeql_rights xneq_rights xbuild_rights0 xload_vecs xindex_vecs
attribute [local go_sem] rowAt_setRow rowAt_setCell load_vec_cut_later load_rights_later Later.cell Later.frozen
attribute [local go_sem] rn_true rn_false re_true re_false eqI_self

/-- What i moved to j. -/
def mv (r : Nat → Int) (i j : Nat) : Int := r (32 + i * 16 + j)
def inL (n : Nat) (r : Nat → Int) (k : Nat) : List Int := r k :: (List.range n).map fun j => mv r j k
theorem inL_succ (n : Nat) (r : Nat → Int) (k : Nat) : inL (n + 1) r k = inL n r k ++ [mv r n k] := by simp [inL, List.range_succ]
theorem inL_len (n : Nat) (r : Nat → Int) (k : Nat) : (inL n r k).length = n + 1 := by simp [inL]
theorem lessL_len (n : Nat) (f : Nat → Int) : (lessL n f).length = n := by simp [lessL]
/-- All that is summed. -/
def freeL (r : Nat → Int) (k : Nat) : List Int := (inL 16 r k ++ [ng (r (16 + k))]) ++ lessL 16 (mv r k)
def freeN (r : Nat → Int) (k : Int) : Int := if isK k then sumN (freeL r k.toNat) else 0
def freeE (r : Nat → Int) (k : Int) : Int := if isK k then sumE (freeL r k.toNat) else 1
theorem freeN_no {r : Nat → Int} {k : Int} (h : isK k = false) : freeN r k = 0 := by simp [freeN, h]
theorem freeE_no {r : Nat → Int} {k : Int} (h : isK k = false) : freeE r k = 1 := by simp [freeE, h]
theorem freeN_is {r : Nat → Int} {k : Nat} (h : isK (k : Int) = true) : freeN r k = sumN (freeL r k) := by simp [freeN, h]
theorem freeE_is {r : Nat → Int} {k : Nat} (h : isK (k : Int) = true) : freeE r k = sumE (freeL r k) := by simp [freeE, h]
/-- The own slice of one int. -/
theorem own_one (w : World) (x : Int) : OwnI (w.alloc (.cells #[.int .i64 x] 3)) w.heap.size (.slice (some ⟨w.heap.size, 0, none⟩) 1 1) [x] := OwnI.row (xs := [x]) (rowAt_alloc_at _ _ _ _ rfl) (by simp)
end Go.Proofs.YtinhaipnmmgplaaGreat

/-
  Layer 3 (rights): enough, Give, Use, Move; the reference's.
-/
namespace Go.Proofs.YtinhaipnmmgplaaGreat
set_option maxRecDepth 20000
open Go.RowKit
set_option linter.unusedSimpArgs false
attribute [local go_sem] rowCells rowAt_drewN get_ints getE_ints set_ints size_ints rowAt_alloc rowAt_drew setRow_alloc setRow_drewN setRow_drew setCell_alloc setCell_drewN splice_upd splice_all load_vec_cut load_vecs_cut load_rights_cut store_vec store_rights eql_vec neq_vec index_vec eql_rights neq_rights index_vecs cut_ints sub_zero
attribute [local go_sem ↓] xload_vec xstore_vec xalloc_vec xeql_vec xneq_vec xindex_vec xbuild_vec0 xload_rights xstore_rights xalloc_rights xeql_rights xneq_rights xbuild_rights0 xload_vecs xindex_vecs
attribute [local go_sem] rowAt_setRow rowAt_setCell load_vec_cut_later load_rights_later Later.cell Later.frozen
attribute [local go_sem] rn_true rn_false re_true re_false eqI_self

/-- Given, Used, Moved[i] of rights. -/
def giveE (r : Nat → Int) (k n : Int) : Int := growE (sub 0 r) k n
def giveF (r : Nat → Int) (k n : Int) : Nat → Int := if giveE r k n = 0 then upd 0 (growF (sub 0 r) k n) r else fun _ => 0
def enoughE (r : Nat → Int) (k n : Int) : Int := if n < 0 then 1 else if freeE r k = 0 then (if freeN r k < n then 8 else 0) else freeE r k
def useE (r : Nat → Int) (k n : Int) : Int := if enoughE r k n = 0 then growE (sub 16 r) k n else enoughE r k n
def useF (r : Nat → Int) (k n : Int) : Nat → Int := if useE r k n = 0 then upd 16 (growF (sub 16 r) k n) r else fun _ => 0
def moveAt (i k : Int) : Bool := isK i && isK k && !decide (i = k)
def moveE (r : Nat → Int) (i k n : Int) : Int := if moveAt i k then (if enoughE r i n = 0 then growE (sub (32 + i.toNat * 16) r) k n else enoughE r i n) else 1
def moveF (r : Nat → Int) (i k n : Int) : Nat → Int := if moveE r i k n = 0 then upd (32 + i.toNat * 16) (growF (sub (32 + i.toNat * 16) r) k n) r else fun _ => 0
theorem below2 {w w1 : World} {c d : Array Value} {t u : TypeId} (h : Below ((w.alloc (.cells c t)).alloc (.cells d u)).heap.size ((w.alloc (.cells c t)).alloc (.cells d u)) w1) : Below w.heap.size w w1 :=
  (((Below.refl _ _).alloc (Nat.le_refl _) _).alloc (by simp) _).trans (h.mono (by simp; omega))
end Go.Proofs.YtinhaipnmmgplaaGreat

/-
  Layer 3 (rights): Move; the reference's.
-/
namespace Go.Proofs.YtinhaipnmmgplaaGreat
set_option maxRecDepth 20000
open Go.RowKit
set_option linter.unusedSimpArgs false
attribute [local go_sem] rowCells rowAt_drewN get_ints getE_ints set_ints size_ints rowAt_alloc rowAt_drew setRow_alloc setRow_drewN setRow_drew setCell_alloc setCell_drewN splice_upd splice_all load_vec_cut load_vecs_cut load_rights_cut store_vec store_rights eql_vec neq_vec index_vec eql_rights neq_rights index_vecs cut_ints sub_zero
attribute [local go_sem ↓] xload_vec xstore_vec xalloc_vec xeql_vec xneq_vec xindex_vec xbuild_vec0 xload_rights xstore_rights xalloc_rights xeql_rights xneq_rights xbuild_rights0 xload_vecs xindex_vecs
attribute [local go_sem] rowAt_setRow rowAt_setCell load_vec_cut_later load_rights_later Later.cell Later.frozen
attribute [local go_sem] rn_true rn_false re_true re_false eqI_self

theorem moveAt_iff {i k : Int} : moveAt i k = true ↔ isK i = true ∧ isK k = true ∧ i ≠ k := by simp [moveAt, and_assoc]
end Go.Proofs.YtinhaipnmmgplaaGreat

/-
  Layer 3 (rights): Join; the reference's.
-/
namespace Go.Proofs.YtinhaipnmmgplaaGreat
set_option maxRecDepth 20000
open Go.RowKit
set_option linter.unusedSimpArgs false
attribute [local go_sem] rowCells rowAt_drewN get_ints getE_ints set_ints size_ints rowAt_alloc rowAt_drew setRow_alloc setRow_drewN setRow_drew setCell_alloc setCell_drewN splice_upd splice_all load_vec_cut load_vecs_cut load_rights_cut store_vec store_rights eql_vec neq_vec index_vec eql_rights neq_rights index_vecs cut_ints sub_zero
attribute [local go_sem ↓] xload_vec xstore_vec xalloc_vec xeql_vec xneq_vec xindex_vec xbuild_vec0 xload_rights xstore_rights xalloc_rights xeql_rights xneq_rights xbuild_rights0 xload_vecs xindex_vecs
attribute [local go_sem] rowAt_setRow rowAt_setCell load_vec_cut_later load_rights_later Later.cell Later.frozen
attribute [local go_sem] rn_true rn_false re_true re_false eqI_self

/-- The join of the first m numbers. -/
def jn (a b : Nat → Int) (m : Nat) : Nat → Int := fun i => if i < m then joinV a b i else a i
theorem jn_step (a b : Nat → Int) (o : Nat) : upd o (joinV (sub o (jn a b o)) (sub o b)) (jn a b o) = jn a b (o + 16) := by
  funext i
  unfold upd jn sub
  by_cases h1 : o ≤ i
  · obtain ⟨d, rfl⟩ : ∃ d, i = o + d := ⟨i - o, by omega⟩
    by_cases h2 : d < 16
    · rw [if_pos ⟨by omega, by omega⟩, if_pos (by omega)]
      have h3 : ¬ o + d < o := by omega
      unfold joinV
      simp [Nat.add_sub_cancel_left, h3]
    · rw [if_neg (by omega), if_neg (by omega), if_neg (by omega)]
  · rw [if_neg (by omega), if_pos (by omega), if_pos (by omega)]
theorem jn_zero (a b : Nat → Int) : jn a b 0 = a := by funext i; simp [jn]
theorem jn_all (a b : Nat → Int) : ints 288 (jn a b 288) = ints 288 (joinV a b) := ints_congr fun i hi => by simp [jn, hi]
end Go.Proofs.YtinhaipnmmgplaaGreat

/-
  Layer 3 (rights): Over; the reference's Join and Over.
-/
namespace Go.Proofs.YtinhaipnmmgplaaGreat
set_option maxRecDepth 20000
open Go.RowKit
attribute [local go_sem] rowCells rowAt_drewN get_ints getE_ints set_ints size_ints rowAt_alloc rowAt_drew setRow_alloc setRow_drewN setRow_drew setCell_alloc setCell_drewN splice_upd splice_all load_vec_cut load_vecs_cut load_rights_cut store_vec store_rights eql_vec neq_vec index_vec eql_rights neq_rights index_vecs cut_ints sub_zero
attribute [local go_sem ↓] xload_vec xstore_vec xalloc_vec xeql_vec xneq_vec xindex_vec xbuild_vec0 xload_rights xstore_rights xalloc_rights xeql_rights xneq_rights xbuild_rights0 xload_vecs xindex_vecs
attribute [local go_sem] rowAt_setRow rowAt_setCell load_vec_cut_later load_rights_later Later.cell Later.frozen
attribute [local go_sem] rn_true rn_false re_true re_false eqI_self

def overR (a b : Nat → Int) : Bool := eqI 288 (joinV a b) a
theorem overR_iff {a b : Nat → Int} : overR a b = true ↔ ∀ i, i < 288 → b i ≤ a i := by
  unfold overR
  rw [eqI_iff]
  constructor
  · intro h i hi
    have := joinV_same.1 (h i hi)
    omega
  · intro h i hi
    have := h i hi
    exact joinV_same.2 (by omega)
theorem overR_no {a b : Nat → Int} (o : Nat) (ho : o + 16 ≤ 288) (h : overB (sub o a) (sub o b) = false) : overR a b = false := by
  cases hr : overR a b with
  | false => rfl
  | true =>
    have : overB (sub o a) (sub o b) = true := overB_iff.2 fun i hi => overR_iff.1 hr (o + i) (by omega)
    rw [this] at h; cases h
theorem overR_yes {a b : Nat → Int} (h1 : overB a b = true) (h2 : overB (sub 16 a) (sub 16 b) = true) (h3 : ∀ j, j < 16 → overB (sub (32 + j * 16) a) (sub (32 + j * 16) b) = true) : overR a b = true :=
  overR_iff.2 fun i hi => by
    by_cases c1 : i < 16
    · exact overB_iff.1 h1 i c1
    · by_cases c2 : i < 32
      · have := overB_iff.1 h2 (i - 16) (by omega)
        simp only [sub, show 16 + (i - 16) = i by omega] at this
        exact this
      · have hd : 32 + (i - 32) / 16 * 16 + (i - 32) % 16 = i := by omega
        have := overB_iff.1 (h3 ((i - 32) / 16) (by omega)) ((i - 32) % 16) (by omega)
        simp only [sub, hd] at this
        exact this
end Go.Proofs.YtinhaipnmmgplaaGreat

/-
  Layer 3 (rights): the reference's Join and Over.
-/
namespace Go.Proofs.YtinhaipnmmgplaaGreat
set_option maxRecDepth 20000
open Go.RowKit
set_option linter.unusedSimpArgs false
/-- Rights of which Given and Used are told. -/
noncomputable def build2 (w : World) (u v : Value) : Result Next := ((do pure (Next.value (← Instr.build 51 #[(0, u), (1, v)])) : Sem Next)).run Tryz.prog w
theorem xbuild_rights2 (ρ : Operand → Value) (d : Option Tmp) (T : TypeId) (p : String) (af : Array Edge) (gd : Option (Nat × Bool)) (x y : Operand) (w : World) :
    (execOp ρ ⟨d, .build 51 #[(0, x), (1, y)], T, p, af, gd⟩).run Tryz.prog w = build2 w (ρ x) (ρ y) := by simp [execOp, build2]
def two (f g : Nat → Int) : Nat → Int := fun i => if i < 16 then f i else if i < 32 then g (i - 16) else 0
theorem build2_ints (w : World) (f g : Nat → Int) : build2 w (.agg (ints 16 f)) (.agg (ints 16 g)) = .ok (.value (.agg (ints 288 (two f g)))) w := by kernel_rfl
attribute [local go_sem] rowCells rowAt_drewN get_ints getE_ints set_ints size_ints rowAt_alloc rowAt_drew setRow_alloc setRow_drewN setRow_drew setCell_alloc setCell_drewN splice_upd splice_all load_vec_cut load_vecs_cut load_rights_cut store_vec store_rights eql_vec neq_vec index_vec eql_rights neq_rights index_vecs cut_ints sub_zero
attribute [local go_sem ↓] xload_vec xstore_vec xalloc_vec xeql_vec xneq_vec xindex_vec xbuild_vec0 xload_rights xstore_rights xalloc_rights xeql_rights xneq_rights xbuild_rights0 xload_vecs xindex_vecs
attribute [local go_sem] rowAt_setRow rowAt_setCell load_vec_cut_later load_rights_later Later.cell Later.frozen
attribute [local go_sem] rn_true rn_false re_true re_false eqI_self
attribute [local go_sem ↓] xbuild_rights2
attribute [local go_sem] build2_ints
def jz (a b : Nat → Int) (m : Nat) : Nat → Int := fun i => if i < m then joinV a b i else 0
theorem jz_step (a b : Nat → Int) (o : Nat) : upd o (joinV (sub o a) (sub o b)) (jz a b o) = jz a b (o + 16) := by
  funext i
  unfold upd jz sub
  by_cases h1 : o ≤ i
  · obtain ⟨d, rfl⟩ : ∃ d, i = o + d := ⟨i - o, by omega⟩
    by_cases h2 : d < 16
    · rw [if_pos ⟨by omega, by omega⟩, if_pos (by omega)]
      unfold joinV
      simp [Nat.add_sub_cancel_left]
    · rw [if_neg (by omega), if_neg (by omega), if_neg (by omega)]
  · rw [if_neg (by omega), if_pos (by omega), if_pos (by omega)]
theorem jz_two (a b : Nat → Int) : two (joinV a b) (joinV (sub 16 a) (sub 16 b)) = jz a b 32 := by
  funext i
  unfold two jz sub joinV
  by_cases h1 : i < 16
  · simp only [h1, if_true, show i < 32 by omega]
  · rw [if_neg h1]
    by_cases h2 : i < 32
    · rw [if_pos h2, if_pos h2]
      simp only [show 16 + (i - 16) = i by omega]
    · rw [if_neg h2, if_neg h2]
theorem jz_all (a b : Nat → Int) : ints 288 (jz a b 288) = ints 288 (joinV a b) := ints_congr fun i hi => by simp [jz, hi]
end Go.Proofs.YtinhaipnmmgplaaGreat

/-
  Layer 3 (rights): Right; the reference's.
-/
namespace Go.Proofs.YtinhaipnmmgplaaGreat
set_option maxRecDepth 20000
open Go.RowKit
attribute [local go_sem] rowCells rowAt_drewN get_ints getE_ints set_ints size_ints rowAt_alloc rowAt_drew setRow_alloc setRow_drewN setRow_drew setCell_alloc setCell_drewN splice_upd splice_all load_vec_cut load_vecs_cut load_rights_cut store_vec store_rights eql_vec neq_vec index_vec eql_rights neq_rights index_vecs cut_ints sub_zero
attribute [local go_sem ↓] xload_vec xstore_vec xalloc_vec xeql_vec xneq_vec xindex_vec xbuild_vec0 xload_rights xstore_rights xalloc_rights xeql_rights xneq_rights xbuild_rights0 xload_vecs xindex_vecs
attribute [local go_sem] rowAt_setRow rowAt_setCell load_vec_cut_later load_rights_later Later.cell Later.frozen
attribute [local go_sem] rn_true rn_false re_true re_false eqI_self

attribute [local go_sem] sub_sub
/-- One row of what was moved may be. -/
def rowB (r : Nat → Int) (k : Nat) : Bool := rightV (sub (32 + k * 16) r) && decide (mv r k k = 0)
def rightTo (r : Nat → Int) (n : Nat) : Bool := (rightV (sub 0 r) && rightV (sub 16 r)) && (List.range n).all (rowB r)
/-- Rights that may be. -/
def rightR (r : Nat → Int) : Bool := rightTo r 16
theorem rightTo_succ (r : Nat → Int) (n : Nat) : rightTo r (n + 1) = (rightTo r n && rowB r n) := by
  simp only [rightTo, List.range_succ, List.all_append, List.all_cons, List.all_nil, Bool.and_true, Bool.and_assoc]
theorem rightTo_le {r : Nat → Int} {n m : Nat} (h : n ≤ m) (hr : rightTo r n = false) : rightTo r m = false := by
  induction h with
  | refl => exact hr
  | step _ ih => rw [rightTo_succ, ih]; rfl
theorem vright_is {f : Nat → Int} {b : Bool} (h : rightV f = b) (w : World) : Calls Tryz.prog 92 #[.agg (ints 16 f)] w fun e w' => e = .returned (.bool b) ∧ Below w.heap.size w w' := by rw [← h]; exact right_any f w
theorem rvright_is {f : Nat → Int} {b : Bool} (h : rightV f = b) (w : World) : Calls Tryz.prog 80 #[.agg (ints 16 f)] w fun e w' => e = .returned (.bool b) ∧ Below w.heap.size w w' := by rw [← h]; exact rright_any f w
set_option maxHeartbeats 2000000 in
theorem rrights_no (r : Nat → Int) (w : World) (h : (rightV r && rightV (sub 16 r)) = false) : Calls Tryz.prog 74 #[.agg (ints 288 r)] w fun e w' => e = .returned (.bool false) ∧ Below w.heap.size w w' := by
  have all : ∀ b1 b2 : Bool, rightV r = b1 → rightV (sub 16 r) = b2 → (b1 && b2) = false → Calls Tryz.prog 74 #[.agg (ints 288 r)] w fun e w' => e = .returned (.bool false) ∧ Below w.heap.size w w' := by
    intro b1 b2 h1 h2 hb
    cases b1 <;> cases b2
    case true.true => cases hb
    all_goals
      clear hb h
      go_enter Tryz.func74, Tryz.ntmps74
      go_upto_region 1 with fail
      refine region_seq ?_
      repeat (go_big_quiet_step ((first | (go_at_call 92; exact quiet_call (by simp) (vright_is (by assumption) _)))))
      refine wpQuiet_nil ?_
      intro w1 hb1
      have HB1 := Lib.hid (((Below.refl _ _).alloc (Nat.le_refl _) _).trans (hb1.mono (by simp)))
      clear hb1
      go_wp2
      go_ret
      exact ⟨rfl, HB1.out⟩
  exact all _ _ rfl rfl h
set_option maxHeartbeats 2000000 in
theorem rights_right_any (r : Nat → Int) (w : World) : Calls Tryz.prog 74 #[.agg (ints 288 r)] w fun e w' => e = .returned (.bool (rightR r)) ∧ Below w.heap.size w w' := by
  cases h : (rightV r && rightV (sub 16 r))
  · have : rightR r = false := rightTo_le (Nat.zero_le _) (by rw [rightTo, sub_zero, h]; rfl)
    rw [this]
    exact rrights_no r w h
  · have h00 : rightTo r 0 = true := by rw [rightTo, sub_zero, h]; rfl
    obtain ⟨h1, h2⟩ := Bool.and_eq_true_iff.1 h
    clear h
    go_enter Tryz.func74, Tryz.ntmps74
    go_upto_region 1 with fail
    refine region_seq ?_
    repeat (go_big_quiet_step ((first | (go_at_call 92; exact quiet_call (by simp) (vright_is (by assumption) _)))))
    refine wpQuiet_nil ?_
    intro w1 hb1
    have r1 : rowAt w1 w.heap.size = some (ints 288 r, 51) := rowKeep hb1 (by simp [rowAt_alloc] <;> omega)
    have HB1 := Lib.hid hb1
    have hz1 := hb1.size
    rw [World.size_alloc] at hz1
    rw [World.size_alloc] at HB1
    clear hb1
    go_wp2_with fail
    go_loopw [17] (fun i w' => ∃ k : Nat, k ≤ 16 ∧ i = .int .i64 k ∧ rightTo r k = true ∧ Below (w.heap.size + 1) (w.alloc (.cells (ints 288 r) 51)) w') (fun i _ => 16 - (intOf i).toNat)
    case atStart => exact ⟨0, by omega, rfl, h00, HB1.out⟩
    case round =>
      rename_i wr
      obtain ⟨k, hk, rfl, hto, hb⟩ := hrel
      have HB := Lib.hid hb
      have hz := hb.size
      rw [World.size_alloc] at hz
      clear hb
      by_cases hlt : k < 16
      · have hto1 := rightTo_succ r k
        rw [hto, Bool.true_and] at hto1
        have HT := Lib.hid hto1
        clear hto1 r1
        cases h3 : rightV (sub (32 + k * 16) r)
        · go_upto_region 6 with fail
          refine region_seq ?_
          repeat (go_big_quiet_step ((first | (go_at_call 92; exact quiet_call (by simp) (vright_is (by assumption) _)))))
          refine wpQuiet_nil ?_
          intro w2 hb2
          have HB2 := Lib.hid ((HB.out.alloc hz _).trans (hb2.mono (by simp; omega)))
          clear hb2
          go_wp2
          go_ret
          refine ⟨?_, ((Below.refl _ _).alloc (Nat.le_refl _) _).trans (HB2.out.mono (by omega))⟩
          rw [show rightR r = false from rightTo_le (show k + 1 ≤ 16 by omega) (by rw [HT.out, rowB, h3]; rfl)]
          rfl
        · have hm : mv r k k = sub (32 + k * 16) r k := rfl
          by_cases h4 : mv r k k = 0
          · have h5 := h4
            rw [hm] at h5
            go_upto_region 6 with fail
            refine region_seq ?_
            repeat (go_big_quiet_step ((first | (go_at_call 92; exact quiet_call (by simp) (vright_is (by assumption) _)))))
            refine wpQuiet_nil ?_
            intro w2 hb2
            have HB2 := Lib.hid ((HB.out.alloc hz _).trans (hb2.mono (by simp; omega)))
            clear hb2
            go_wp2
            go_roundw
            case rel => exact ⟨k + 1, by omega, by go_num, by rw [HT.out, rowB, h3, h4]; rfl, HB2.out⟩
            case measure => simp [intOf]; omega
          · have h5 : ¬ sub (32 + k * 16) r k = 0 := h4
            have h6 : (sub (32 + k * 16) r k == 0) = false := beq_eq_false_iff_ne.2 h5
            have h7 : decide (sub (32 + k * 16) r k = 0) = false := decide_eq_false h5
            go_upto_region 6 with fail
            refine region_seq ?_
            repeat (go_big_quiet_step ((first | (go_at_call 92; exact quiet_call (by simp) (vright_is (by assumption) _)))))
            refine wpQuiet_nil ?_
            intro w2 hb2
            have HB2 := Lib.hid ((HB.out.alloc hz _).trans (hb2.mono (by simp; omega)))
            clear hb2
            go_wp2
            go_ret
            refine ⟨?_, ((Below.refl _ _).alloc (Nat.le_refl _) _).trans (HB2.out.mono (by omega))⟩
            rw [show rightR r = false from rightTo_le (show k + 1 ≤ 16 by omega) (by rw [HT.out, rowB, h3, decide_eq_false h4]; rfl)]
            rfl
      · obtain rfl : k = 16 := by omega
        clear r1
        go_wp2
        go_ret
        refine ⟨?_, ((Below.refl _ _).alloc (Nat.le_refl _) _).trans (HB.out.mono (by omega))⟩
        rw [show rightR r = true from hto]
        rfl
set_option maxHeartbeats 2000000 in
theorem rrights_right_any (r : Nat → Int) (w : World) : Calls Tryz.prog 58 #[.agg (ints 288 r)] w fun e w' => e = .returned (.bool (rightR r)) ∧ Below w.heap.size w w' := by
  have all : ∀ b1 b2 : Bool, rightV r = b1 → rightV (sub 16 r) = b2 → Calls Tryz.prog 58 #[.agg (ints 288 r)] w fun e w' => e = .returned (.bool (rightR r)) ∧ Below w.heap.size w w' := by
    intro b1 b2 h1 h2
    have h00 : rightTo r 0 = (b1 && b2) := by rw [rightTo, sub_zero, h1, h2]; simp
    cases b1 <;> cases b2
    all_goals
      go_enter Tryz.func58, Tryz.ntmps58
      go_upto_region 1 with fail
      refine region_seq ?_
      repeat (go_big_quiet_step ((first | (go_at_call 80; exact quiet_call (by simp) (rvright_is (by assumption) _)))))
      refine wpQuiet_nil ?_
      intro w1 hb1
      have r1 : rowAt w1 w.heap.size = some (ints 288 r, 51) := rowKeep hb1 (by simp [rowAt_alloc] <;> omega)
      have HB1 := Lib.hid hb1
      have hz1 := hb1.size
      rw [World.size_alloc] at hz1
      rw [World.size_alloc] at HB1
      clear hb1
      go_wp2_with fail
      go_loopw [3, 4] (fun v i w' => ∃ k : Nat, k ≤ 16 ∧ i = .int .i64 k ∧ v = .bool (rightTo r k) ∧ Below (w.heap.size + 1) (w.alloc (.cells (ints 288 r) 51)) w') (fun _ i _ => 16 - (intOf i).toNat)
      case atStart => exact ⟨0, by omega, rfl, by rw [h00]; rfl, HB1.out⟩
      case round =>
        rename_i wr
        obtain ⟨k, hk, rfl, rfl, hb⟩ := hrel
        have r2 : rowAt wr w.heap.size = some (ints 288 r, 51) := (rowAt_below hb _ (by omega)).trans (rowAt_alloc_at _ _ _ _ rfl)
        have HB := Lib.hid hb
        have hz := hb.size
        rw [World.size_alloc] at hz
        clear hb r1
        by_cases hlt : k < 16
        · have HT := Lib.hid (rightTo_succ r k)
          have hle : 32 + k * 16 + 16 ≤ 288 := by omega
          have hg : w.heap.size < wr.heap.size := by omega
          have hkk : 32 + k * 16 + k < 288 := by omega
          have hc1 : wr.cell? ⟨w.heap.size, 32 + k * 16 + k, none⟩ = some (.int .i64 (mv r k k)) := by rw [cell_of_rowAt r2]; exact get_ints 288 r _ hkk
          cases hto : rightTo r k
          · go_upto_region 5 with fail
            refine region_seq ?_
            repeat (go_big_quiet_step ((first | (go_at_call 80; exact quiet_call (by simp) (rvright_is (by assumption) _)))))
            refine wpQuiet_nil ?_
            intro w2 hb2
            have HB2 := Lib.hid (HB.out.trans (hb2.mono hz))
            clear hb2
            go_wp2
            go_roundw
            case rel => exact ⟨k + 1, by omega, by go_num, by rw [HT.out, hto]; rfl, HB2.out⟩
            case measure => simp [intOf]; omega
          · cases h3 : rightV (sub (32 + k * 16) r)
            · go_upto_region 5 with fail
              refine region_seq ?_
              repeat (go_big_quiet_step ((first | (go_at_call 80; exact quiet_call (by simp) (rvright_is (by assumption) _)))))
              refine wpQuiet_nil ?_
              intro w2 hb2
              have HB2 := Lib.hid (HB.out.trans (hb2.mono hz))
              clear hb2
              go_wp2
              go_roundw
              case rel => exact ⟨k + 1, by omega, by go_num, by rw [HT.out, hto, rowB, h3]; rfl, HB2.out⟩
              case measure => simp [intOf]; omega
            · go_upto_region 5 with fail
              refine region_seq ?_
              repeat (go_big_quiet_step ((first | (go_at_call 80; exact quiet_call (by simp) (rvright_is (by assumption) _)))))
              refine wpQuiet_nil ?_
              intro w2 hb2
              have HB2 := Lib.hid (HB.out.trans (hb2.mono hz))
              clear hb2
              go_wp2
              go_roundw
              case rel => exact ⟨k + 1, by omega, by go_num, by rw [HT.out, hto, rowB, h3]; simp; rw [Bool.eq_iff_iff]; simp, HB2.out⟩
              case measure => simp [intOf]; omega
        · obtain rfl : k = 16 := by omega
          go_wp2
          go_ret
          exact ⟨rfl, ((Below.refl _ _).alloc (Nat.le_refl _) _).trans (HB.out.mono (by omega))⟩
  exact all _ _ rfl rfl
end Go.Proofs.YtinhaipnmmgplaaGreat
