/-
  Plain law of CounterMakes: a new counter may be.
-/
import Derived.Test.YtifnjgedohdjhaaRRRCRight
namespace Go.Proofs.YtifnjgedohdjhaaRRR
open Go.RowKit
theorem lst_one {f : Nat → Int} {x : Int} (h0 : f 0 = x) (hz : ∀ q, 0 < q → q < 16 → f q = 0) : lst f = x :: List.replicate 15 0 := by
  refine List.ext_getElem (by simp [lst_len]) fun i h1 h2 => ?_
  rw [lst_len] at h1
  simp only [lst, List.getElem_map, List.getElem_range]
  cases i with
  | zero => exact h0
  | succ i => rw [hz _ (by omega) h1, List.getElem_cons_succ, List.getElem_replicate]
theorem sum_one {f : Nat → Int} {x : Int} (h0 : f 0 = x) (hz : ∀ q, 0 < q → q < 16 → f q = 0) (hx : 0 ≤ x) (hb : x ≤ 1099511627776) : sumN (lst f) = x ∧ sumE (lst f) = 0 := by
  have hl : ∀ y ∈ lst f, 0 ≤ y := by
    rw [lst_one h0 hz]
    intro y hy
    simp at hy
    omega
  have hs : (lst f).sum = x := by rw [lst_one h0 hz]; simp
  rw [sumN_pos hl, sumE_pos hl, hs, if_pos hb, if_pos hb]
  exact ⟨rfl, rfl⟩
theorem rightR_one {f : Nat → Int} {x : Int} (h0 : f 0 = x) (hz : ∀ q, 0 < q → q < 288 → f q = 0) (hx : 0 ≤ x) (hb : x ≤ 1099511627776) : rightR f = true := by
  have all : ∀ o, o + 16 ≤ 288 → rightV (sub o f) = true := fun o ho => rightV_iff.2 fun i hi => by
    unfold sub
    by_cases h : o + i = 0
    · rw [h, h0]; omega
    · rw [hz _ (by omega) (by omega)]; omega
  unfold rightR rightTo
  rw [all 0 (by omega), all 16 (by omega), Bool.and_self, Bool.true_and, List.all_eq_true]
  intro k hk
  rw [List.mem_range] at hk
  unfold rowB mv
  rw [all _ (by omega), hz _ (by omega) (by omega)]
  rfl
theorem newF_right {i l h : Int} (hN : newOk i l h = true) : rightC (newF i l h) = true := by
  obtain ⟨h1, h2, h3, h4, h5, h6⟩ := newOk_iff.1 hN
  have b1 := isB_iff.1 h1
  have b2 := isB_iff.1 h2
  have b3 := isB_iff.1 h3
  have e : newF i l h = newV i l h := if_pos hN
  rw [e]
  have e0 : newV i l h 0 = i := rfl
  have e1 : newV i l h 1 = l := rfl
  have e2 : newV i l h 2 = h := rfl
  have d0 : sub 3 (newV i l h) 0 = i - l := rfl
  have u0 : sub 291 (newV i l h) 0 = h - i := rfl
  have dz : ∀ q, 0 < q → q < 288 → sub 3 (newV i l h) q = 0 := fun q h7 h8 => by
    unfold sub newV
    rw [if_neg (by omega), if_neg (by omega), if_neg (by omega), if_neg (by omega), if_neg (by omega)]
  have uz : ∀ q, 0 < q → q < 288 → sub 291 (newV i l h) q = 0 := fun q h7 h8 => by
    unfold sub newV
    rw [if_neg (by omega), if_neg (by omega), if_neg (by omega), if_neg (by omega), if_neg (by omega)]
  have s1 := sum_one d0 (fun q a b => dz q a (by omega)) (by omega) (by omega)
  have s2 := sum_one u0 (fun q a b => uz q a (by omega)) (by omega) (by omega)
  have s3 := sum_one (f := sub 16 (sub 291 (newV i l h))) (x := 0) (uz 16 (by omega) (by omega)) (fun q a b => uz (16 + q) (by omega) (by omega)) (by omega) (by omega)
  have s4 := sum_one (f := sub 16 (sub 3 (newV i l h))) (x := 0) (dz 16 (by omega) (by omega)) (fun q a b => dz (16 + q) (by omega) (by omega)) (by omega) (by omega)
  have a1 : addOk (i - l) 0 = true := by simp [addOk, isB]; omega
  have a2 : addOk (h - i) 0 = true := by simp [addOk, isB]; omega
  unfold rightC givenB
  rw [e0, e1, e2, h1, h2, h3, rightR_one d0 dz (by omega) (by omega), rightR_one u0 uz (by omega) (by omega), s1.1, s1.2, s2.1, s2.2, s3.1, s3.2, s4.1, s4.2, a1, a2, decide_eq_true h4, decide_eq_true h5]
  simp
end Go.Proofs.YtifnjgedohdjhaaRRR
