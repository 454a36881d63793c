/-
  Layer 2 (vec): Join, Over.
-/
import Derived.Test.YtpjichkigccfnaaVec
namespace Go.Proofs.Ytpjichkigccfnaa
set_option maxRecDepth 20000
open Go.RowKit
attribute [local go_sem] rowCells rowAt_drewN get_ints getE_ints set_ints size_ints rowAt_alloc rowAt_drew setRow_alloc setRow_drewN setRow_drew setCell_alloc setCell_drewN splice_ints ext_ints0 extract_ints splice_all load_vec store_vec eql_vec neq_vec index_vec
attribute [local go_sem ↓] xload_vec xstore_vec xalloc_vec xeql_vec xneq_vec xindex_vec xbuild_vec0
attribute [local go_sem] rowAt_setRow rowAt_setCell load_vec_later Later.cell Later.frozen
/-- The join. -/
def joinV (f g : Nat → Int) : Nat → Int := fun i => if f i < g i then g i else f i
/-- Over. -/
def overB (f g : Nat → Int) : Bool := eqI 16 (joinV f g) f
theorem joinV_same {f g : Nat → Int} {i : Nat} : joinV f g i = f i ↔ ¬ f i < g i := by
  unfold joinV
  split <;> omega
theorem overB_iff {f g : Nat → Int} : overB f g = true ↔ ∀ i, i < 16 → g i ≤ f i := by
  unfold overB
  rw [eqI_iff]
  constructor
  · intro h i hi
    have := joinV_same.1 (h i hi)
    omega
  · intro h i hi
    have := h i hi
    exact joinV_same.2 (by omega)
/-- A vector that may be. -/
def rightV (f : Nat → Int) : Bool := (List.range 16).all fun i => decide (0 ≤ f i) && isB (f i)
theorem rightV_iff {f : Nat → Int} : rightV f = true ↔ ∀ i, i < 16 → 0 ≤ f i ∧ f i ≤ 1099511627776 := by
  unfold rightV
  rw [List.all_eq_true]
  simp only [List.mem_range, Bool.and_eq_true, decide_eq_true_eq, isB_iff]
  exact ⟨fun h i hi => ⟨(h i hi).1, (h i hi).2.2⟩, fun h i hi => ⟨(h i hi).1, by have := (h i hi).1; omega, (h i hi).2⟩⟩
theorem rightV_false {f : Nat → Int} {k : Nat} (hk : k < 16) (h : ¬ (0 ≤ f k ∧ f k ≤ 1099511627776)) : rightV f = false := by
  cases hr : rightV f with
  | false => rfl
  | true => exact absurd (rightV_iff.1 hr k hk) h
set_option maxHeartbeats 1000000 in
theorem right_any (f : Nat → Int) (w : World) : Calls Try.prog 107 #[.agg (ints 16 f)] w fun e w' => e = .returned (.bool (rightV f)) ∧ Below w.heap.size w w' := by
  go_enter Try.func107, Try.ntmps107
  go_wp2
  go_loop [6] (fun i => ∃ k : Nat, k ≤ 16 ∧ i = .int .i64 k ∧ ∀ j, j < k → 0 ≤ f j ∧ f j ≤ 1099511627776) (fun i => 16 - (intOf i).toNat)
  case atStart => exact ⟨0, by omega, rfl, fun j hj => by omega⟩
  case round =>
    obtain ⟨k, hk, rfl, hall⟩ := hrel
    have HA := Lib.hid hall
    clear hall
    by_cases hlt : k < 16
    · by_cases h0 : f k < 0
      · go_wp2
        go_ret
        exact ⟨by rw [rightV_false hlt (by omega)]; rfl, (Below.refl _ _).alloc (Nat.le_refl _) _⟩
      · cases h1 : isB (f k)
        · go_wp2_with (go_at_call 43; refine (is_any _ _).mono ?_; rintro e w' ⟨rfl, rfl⟩)
          go_ret
          exact ⟨by rw [rightV_false hlt (by have := isB_not.1 h1; omega)]; rfl, (Below.refl _ _).alloc (Nat.le_refl _) _⟩
        · go_wp2_with (go_at_call 43; refine (is_any _ _).mono ?_; rintro e w' ⟨rfl, rfl⟩)
          go_round
          case rel =>
            refine ⟨k + 1, by omega, by go_num, fun j hj => ?_⟩
            by_cases hjk : j = k
            · rw [hjk]; have := isB_iff.1 h1; omega
            · exact HA.out j (by omega)
          case measure => simp [intOf]; omega
    · go_wp2
      go_ret
      exact ⟨by rw [rightV_iff.2 fun i hi => HA.out i (by omega)]; rfl, (Below.refl _ _).alloc (Nat.le_refl _) _⟩
/-- What grows. -/
def growAt (k n : Int) : Bool := decide (0 ≤ k) && decide (k < 16) && decide (0 ≤ n)
def growF (f : Nat → Int) (k n : Int) : Nat → Int := fun i => if growAt k n && addOk (f k.toNat) n then (if i = k.toNat then f i + n else f i) else 0
def growE (f : Nat → Int) (k n : Int) : Int := if growAt k n then re (addOk (f k.toNat) n) else 1
attribute [local go_sem] rn_true rn_false re_true re_false
theorem growAt_iff {k n : Int} : growAt k n = true ↔ 0 ≤ k ∧ k < 16 ∧ 0 ≤ n := by simp [growAt, and_assoc]
theorem growAt_false {k n : Int} (h : ¬ (0 ≤ k ∧ k < 16 ∧ 0 ≤ n)) : growAt k n = false := by
  cases hr : growAt k n with
  | false => rfl
  | true => exact absurd (growAt_iff.1 hr) h
theorem growF_bad {f : Nat → Int} {k n : Int} (h : growAt k n = false) : growF f k n = fun _ => 0 := by funext i; simp [growF, h]
theorem growF_no {f : Nat → Int} {k n : Int} (h : addOk (f k.toNat) n = false) : growF f k n = fun _ => 0 := by funext i; simp [growF, h]
theorem growF_to {f : Nat → Int} {k n : Int} (h : growAt k n = true) (h2 : addOk (f k.toNat) n = true) : growF f k n = fun i => if i = k.toNat then f i + n else f i := by funext i; simp [growF, h, h2]
theorem growE_bad {f : Nat → Int} {k n : Int} (h : growAt k n = false) : growE f k n = 1 := by simp [growE, h]
theorem growE_at {f : Nat → Int} {k n : Int} (h : growAt k n = true) : growE f k n = re (addOk (f k.toNat) n) := by simp [growE, h]
end Go.Proofs.Ytpjichkigccfnaa
