/-
  Plain laws of RightsUse: what is free, and the total, behind a use and a gift.
-/
import Derived.Test.YtpicfjlcepfneaaRSum
namespace Go.Proofs.Ytpicfjlcepfneaa
open Go.RowKit
theorem sumFrom_some {l : List Int} : ∀ {n m : Int}, sumFrom n l = some m → m = n + l.sum := by
  induction l with
  | nil => intro n m h; simp [sumFrom] at h; simp [h]
  | cons x l ih =>
    intro n m h
    simp only [sumFrom] at h
    split at h
    · have := ih h; rw [List.sum_cons]; omega
    · cases h
theorem sumN_of {l : List Int} (h : sumE l = 0) : sumN l = l.sum := by
  unfold sumE at h
  unfold sumN
  cases hs : sumFrom 0 l with
  | none => rw [hs] at h; exact absurd h (by decide)
  | some m => have := sumFrom_some hs; simp [this]
/-- All but Given lie between -B and B. -/
def small' (r : Nat → Int) : Prop := ∀ q, 16 ≤ q → q < 288 → -BB ≤ r q ∧ r q ≤ BB
theorem freeL_sum {r : Nat → Int} (hr : small' r) {k : Nat} (hk : k < 16) : (freeL r k).sum = r k + S16 (fun j => mv r j k) - r (16 + k) - S16 (fun j => mv r k j) := by
  have e1 : lessL 16 (mv r k) = (List.range 16).map fun j => -(mv r k j) := by
    unfold lessL
    exact List.map_congr_left fun j hj => ng_small (hr _ (by omega) (by have := List.mem_range.1 hj; omega))
  have e2 : ∀ l : List Nat, (l.map fun j => -(mv r k j)).sum = -(l.map fun j => mv r k j).sum := by
    intro l
    induction l with
    | nil => simp
    | cons a l ih => rw [List.map_cons, List.sum_cons, ih, List.map_cons, List.sum_cons]; omega
  unfold freeL inL
  rw [e1, ng_small (hr (16 + k) (by omega) (by omega))]
  simp only [List.cons_append, List.sum_cons, List.sum_append, List.sum_nil, Int.add_zero, e2]
  unfold S16
  omega
theorem freeN_of {r : Nat → Int} (hr : small' r) {k : Nat} (hk : k < 16) (h : freeE r k = 0) : freeN r k = r k + S16 (fun j => mv r j k) - r (16 + k) - S16 (fun j => mv r k j) := by
  have hK := isK_iff.2 (show 0 ≤ (k : Int) ∧ (k : Int) < 16 from ⟨by omega, by omega⟩)
  rw [freeE_is hK] at h
  rw [freeN_is hK, sumN_of h, freeL_sum hr hk]
theorem totalL_sum {r : Nat → Int} (hr : small' r) : (totalL r).sum = S16 r - S16 (sub 16 r) := by
  have e1 : lessL 16 (sub 16 r) = (List.range 16).map fun j => -(sub 16 r j) := by
    unfold lessL
    exact List.map_congr_left fun j hj => ng_small (hr (16 + j) (by omega) (by have := List.mem_range.1 hj; omega))
  have e2 : ∀ l : List Nat, (l.map fun j => -(sub 16 r j)).sum = -(l.map fun j => sub 16 r j).sum := by
    intro l
    induction l with
    | nil => simp
    | cons a l ih => rw [List.map_cons, List.sum_cons, ih, List.map_cons, List.sum_cons]; omega
  unfold totalL
  rw [e1, List.sum_append, e2]
  unfold S16
  rfl
theorem totalN_of {r : Nat → Int} (hr : small' r) (h : totalE r = 0) : totalN r = S16 r - S16 (sub 16 r) := by
  unfold totalE at h
  unfold totalN
  rw [sumN_of h, totalL_sum hr]
theorem total_bound {r : Nat → Int} (h : ∀ q, q < 288 → inR (r q)) : totalE r = 0 ∧ -17179869184 ≤ totalN r ∧ totalN r ≤ 17179869184 := by
  have hs := small_mono (small_of_inR h) (show (1073741824 : Int) ≤ BB by decide)
  refine ⟨totalE_small hs, ?_⟩
  rw [totalN_small hs]
  have h3 := S16_bound (g := r) (B := 1073741824) fun j hj => h _ (by omega)
  have h4 := S16_bound (g := sub 16 r) (B := 1073741824) fun j hj => h _ (by omega)
  omega
theorem small'_of {r : Nat → Int} (h : ∀ q, q < 288 → inR (r q)) : small' r := fun q _ hq => small_mono (small_of_inR h) (show (1073741824 : Int) ≤ BB by decide) q hq
/-- What a use or a gift by b does. -/
structure Turned (r x : Nat → Int) (b : Nat) (by_ : Int) : Prop where
  free : ∀ j : Nat, j < 16 → freeE x j = 0 → freeN x j = freeN r j + (if j = b then by_ else 0)
  total : totalE x = 0 → totalN x = totalN r + by_
  over : overR x r = true
theorem give_turned {r : Nat → Int} (hr : ∀ q, q < 288 → inR (r q)) {k n : Int} (h : giveE r k n = 0) : ∃ b : Nat, k = b ∧ b < 16 ∧ 0 ≤ n ∧ n ≤ 1099511627776 ∧ Turned r (giveF r k n) b n := by
  have h' := h
  unfold giveE at h'
  have hat : growAt k n = true := by
    cases hat : growAt k n with
    | true => rfl
    | false => rw [growE_bad hat] at h'; exact absurd h' (by decide)
  obtain ⟨h0, h1, h2⟩ := growAt_iff.1 hat
  obtain ⟨b, rfl⟩ := Int.eq_ofNat_of_zero_le h0
  obtain ⟨u1, u2, u3⟩ := upd_grow (show b < 16 by omega) h'
  have hF : giveF r b n = bump b n r := by
    unfold giveF
    rw [if_pos h, u1, Nat.zero_add]
  rw [Nat.zero_add] at u3
  have hi := isB_iff.1 u3
  have hrb := hr b (by omega)
  unfold inR at hrb
  have hx : small' (bump b n r) := fun q hq hq2 => by rw [bump_past _ _ _ _ (by omega)]; exact small'_of hr q hq hq2
  refine ⟨b, rfl, by omega, u2, by omega, ?_⟩
  rw [hF]
  refine ⟨fun j hj hf => ?_, fun ht => ?_, bump_over u2⟩
  · rw [freeN_of hx hj hf, freeN_of (small'_of hr) hj (free_bound hr hj).1, bump_past _ _ b (16 + j) (by omega)]
    rw [S16_same (g := fun c => mv r c j) (g' := fun c => mv (bump b n r) c j) fun c _ => bump_past _ _ _ _ (by omega), S16_same (g := fun c => mv r j c) (g' := fun c => mv (bump b n r) j c) fun c _ => bump_past _ _ _ _ (by omega)]
    unfold bump
    split <;> omega
  · rw [totalN_of hx ht, totalN_of (small'_of hr) (total_bound hr).1, S16_upd (g := r) (m := b) (d := n) (by omega) (fun j _ => by unfold bump; split <;> omega),
      S16_same (g := sub 16 r) (g' := sub 16 (bump b n r)) fun c _ => bump_past _ _ _ _ (by omega)]
    omega
theorem use_turned {r : Nat → Int} (hr : ∀ q, q < 288 → inR (r q)) {k n : Int} (h : useE r k n = 0) : ∃ b : Nat, k = b ∧ b < 16 ∧ 0 ≤ n ∧ n ≤ 1099511627776 ∧ Turned r (useF r k n) b (-n) := by
  have h' := h
  unfold useE at h'
  by_cases he : enoughE r k n = 0
  · rw [if_pos he] at h'
    have hat : growAt k n = true := by
      cases hat : growAt k n with
      | true => rfl
      | false => rw [growE_bad hat] at h'; exact absurd h' (by decide)
    obtain ⟨h0, h1, h2⟩ := growAt_iff.1 hat
    obtain ⟨b, rfl⟩ := Int.eq_ofNat_of_zero_le h0
    obtain ⟨e1, e2, e3⟩ := enough_facts he
    obtain ⟨u1, u2, u3⟩ := upd_grow (show b < 16 by omega) h'
    have hb := free_bound hr (show b < 16 by omega)
    have hF : useF r b n = bump (16 + b) n r := by
      unfold useF
      rw [if_pos h, u1]
    have hx : small' (bump (16 + b) n r) := fun q _ hq2 => small_mono (bump_small (small_of_inR hr) (16 + b) u2) (by unfold BB; omega) q hq2
    refine ⟨b, rfl, by omega, u2, by omega, ?_⟩
    rw [hF]
    refine ⟨fun j hj hf => ?_, fun ht => ?_, bump_over u2⟩
    · rw [freeN_of hx hj hf, freeN_of (small'_of hr) hj (free_bound hr hj).1, bump_past _ _ (16 + b) j (by omega)]
      rw [S16_same (g := fun c => mv r c j) (g' := fun c => mv (bump (16 + b) n r) c j) fun c _ => bump_past _ _ _ _ (by omega), S16_same (g := fun c => mv r j c) (g' := fun c => mv (bump (16 + b) n r) j c) fun c _ => bump_past _ _ _ _ (by omega)]
      unfold bump
      by_cases hjb : j = b
      · subst hjb; rw [if_pos rfl, if_pos rfl]; omega
      · rw [if_neg (by omega), if_neg hjb]; omega
    · rw [totalN_of hx ht, totalN_of (small'_of hr) (total_bound hr).1, S16_same (g := r) (g' := bump (16 + b) n r) fun c _ => bump_past _ _ _ _ (by omega),
        S16_upd (g := sub 16 r) (g' := sub 16 (bump (16 + b) n r)) (m := b) (d := n) (by omega) (fun j _ => by unfold sub bump; by_cases hjb : j = b <;> simp [hjb])]
      omega
  · rw [if_neg he] at h'; exact absurd h' he
end Go.Proofs.Ytpicfjlcepfneaa
