/-
  Plain laws of layer 3: what is free, and the total, of numbers that are not great; behind a move, a use, a gift.
-/
import Derived.Test.YtpicfjlcepfneaaRMove
import Derived.Test.YtpicfjlcepfneaaTotal
import Derived.Test.YtpicfjlcepfneaaROver
namespace Go.Proofs.Ytpicfjlcepfneaa
open Go.RowKit
theorem sumFrom_small {B : Int} (hB : 0 ≤ B) (l : List Int) : ∀ n : Int, (∀ x ∈ l, -B ≤ x ∧ x ≤ B) → -1099511627776 + B * l.length ≤ n → n ≤ 1099511627776 - B * l.length → B ≤ 1099511627776 → sumFrom n l = some (n + l.sum) := by
  induction l with
  | nil => intro n _ _ _ _; simp [sumFrom]
  | cons x l ih =>
    intro n hl h1 h2 h3
    have hx := hl x (by simp)
    have e : B * ((x :: l).length : Int) = B * (l.length : Int) + B := by
      rw [List.length_cons]; push_cast; rw [Int.mul_add, Int.mul_one]
    rw [e] at h1 h2
    have hp : 0 ≤ B * (l.length : Int) := Int.mul_nonneg hB (by omega)
    have hok : addOk n x = true := by
      simp only [addOk, Bool.and_eq_true, isB_iff]
      omega
    rw [sumFrom, if_pos hok, ih (n + x) (fun y hy => hl y (List.mem_cons_of_mem _ hy)) (by omega) (by omega) h3, List.sum_cons, Int.add_assoc]
def S16 (g : Nat → Int) : Int := ((List.range 16).map g).sum
theorem sum_upd (g g' : Nat → Int) (m : Nat) (d : Int) : ∀ n, (∀ j, j < n → g' j = g j + (if j = m then d else 0)) → ((List.range n).map g').sum = ((List.range n).map g).sum + (if m < n then d else 0) := by
  intro n
  induction n with
  | zero => intro _; simp
  | succ n ih =>
    intro h
    rw [List.range_succ, List.map_append, List.map_append, List.sum_append, List.sum_append, ih fun j hj => h j (by omega)]
    simp only [List.map_cons, List.map_nil, List.sum_cons, List.sum_nil, Int.add_zero]
    rw [h n (by omega)]
    by_cases h1 : n = m
    · subst h1; simp; omega
    · by_cases h2 : m < n
      · simp [h1, h2, show m < n + 1 by omega]; omega
      · simp [h1, h2, show ¬ m < n + 1 by omega]
theorem S16_upd {g g' : Nat → Int} {m : Nat} {d : Int} (hm : m < 16) (h : ∀ j, j < 16 → g' j = g j + (if j = m then d else 0)) : S16 g' = S16 g + d := by
  unfold S16
  rw [sum_upd g g' m d 16 h, if_pos hm]
theorem S16_same {g g' : Nat → Int} (h : ∀ j, j < 16 → g' j = g j) : S16 g' = S16 g := by
  unfold S16
  congr 1
  exact List.map_congr_left fun j hj => h j (List.mem_range.1 hj)
/-- All numbers lie between -B and B. -/
def small (B : Int) (r : Nat → Int) : Prop := ∀ q, q < 288 → -B ≤ r q ∧ r q ≤ B
def BB : Int := 30000000000
theorem ng_small {x : Int} (h : -BB ≤ x ∧ x ≤ BB) : ng x = -x := by
  unfold ng wrap64
  unfold BB at h
  omega
theorem mem_freeL {r : Nat → Int} (hr : small BB r) {k : Nat} (hk : k < 16) : ∀ x ∈ freeL r k, -BB ≤ x ∧ x ≤ BB := by
  intro x hx
  simp only [freeL, inL, lessL, List.cons_append, List.mem_cons, List.mem_append, List.mem_map, List.mem_range, List.not_mem_nil, or_false] at hx
  rcases hx with h | (⟨j, hj, h⟩ | h) | ⟨j, hj, h⟩
  · rw [h]; exact hr k (by omega)
  · rw [← h]; exact hr _ (by omega)
  · have := hr (16 + k) (by omega)
    rw [h, ng_small this]; omega
  · have := hr (32 + k * 16 + j) (by omega)
    rw [← h, show mv r k j = r (32 + k * 16 + j) from rfl, ng_small this]; omega
theorem mem_freeL' {r : Nat → Int} (hr : small BB r) {k : Nat} (hk : k < 16) : (freeL r k).sum = r k + S16 (fun j => mv r j k) - r (16 + k) - S16 (fun j => mv r k j) := by
  have e1 : lessL 16 (mv r k) = (List.range 16).map fun j => -(mv r k j) := by
    unfold lessL
    exact List.map_congr_left fun j hj => ng_small (hr _ (by have := List.mem_range.1 hj; omega))
  have e2 : ∀ l : List Nat, (l.map fun j => -(mv r k j)).sum = -(l.map fun j => mv r k j).sum := by
    intro l
    induction l with
    | nil => simp
    | cons a l ih => rw [List.map_cons, List.sum_cons, ih, List.map_cons, List.sum_cons]; omega
  unfold freeL inL
  rw [e1, ng_small (hr (16 + k) (by omega))]
  simp only [List.cons_append, List.sum_cons, List.sum_append, List.sum_nil, Int.add_zero, e2]
  unfold S16
  omega
theorem free_small {r : Nat → Int} (hr : small BB r) {k : Nat} (hk : k < 16) : sumFrom 0 (freeL r k) = some (freeL r k).sum := by
  rw [sumFrom_small (B := BB) (by decide) _ 0 (mem_freeL hr hk) (by simp [freeL, inL, lessL, BB]) (by simp [freeL, inL, lessL, BB]) (by decide), Int.zero_add]
theorem freeE_small {r : Nat → Int} (hr : small BB r) {k : Nat} (hk : k < 16) : freeE r k = 0 := by
  rw [freeE_is (isK_iff.2 ⟨by omega, by omega⟩), sumE, free_small hr hk]; rfl
theorem freeN_small {r : Nat → Int} (hr : small BB r) {k : Nat} (hk : k < 16) : freeN r k = r k + S16 (fun j => mv r j k) - r (16 + k) - S16 (fun j => mv r k j) := by
  rw [freeN_is (isK_iff.2 ⟨by omega, by omega⟩), sumN, free_small hr hk, ← mem_freeL' hr hk]; rfl
theorem total_small {r : Nat → Int} (hr : small BB r) : sumFrom 0 (totalL r) = some (S16 r - S16 (sub 16 r)) := by
  have hm : ∀ x ∈ totalL r, -BB ≤ x ∧ x ≤ BB := by
    intro x hx
    simp only [totalL, lessL, List.mem_append, List.mem_map, List.mem_range] at hx
    rcases hx with ⟨j, hj, h⟩ | ⟨j, hj, h⟩
    · rw [← h]; exact hr j (by omega)
    · have := hr (16 + j) (by omega)
      rw [← h, show sub 16 r j = r (16 + j) from rfl, ng_small this]; omega
  rw [sumFrom_small (B := BB) (by decide) _ 0 hm (by simp [totalL, lessL, BB]) (by simp [totalL, lessL, BB]) (by decide), Int.zero_add]
  have e1 : lessL 16 (sub 16 r) = (List.range 16).map fun j => -(sub 16 r j) := by
    unfold lessL
    exact List.map_congr_left fun j hj => ng_small (hr (16 + j) (by have := List.mem_range.1 hj; omega))
  have e2 : ∀ l : List Nat, (l.map fun j => -(sub 16 r j)).sum = -(l.map fun j => sub 16 r j).sum := by
    intro l
    induction l with
    | nil => simp
    | cons a l ih => rw [List.map_cons, List.sum_cons, ih, List.map_cons, List.sum_cons]; omega
  unfold totalL
  rw [e1, List.sum_append, e2]
  unfold S16
  rfl
theorem totalN_small {r : Nat → Int} (hr : small BB r) : totalN r = S16 r - S16 (sub 16 r) := by
  rw [totalN, sumN, total_small hr]; rfl
theorem totalE_small {r : Nat → Int} (hr : small BB r) : totalE r = 0 := by
  rw [totalE, sumE, total_small hr]; rfl
/-- One number is greater by n. -/
def bump (q : Nat) (n : Int) (r : Nat → Int) : Nat → Int := fun i => if i = q then r i + n else r i
theorem upd_grow {r : Nat → Int} {o k : Nat} {n : Int} (hk : k < 16) (h : growE (sub o r) k n = 0) : upd o (growF (sub o r) k n) r = bump (o + k) n r ∧ 0 ≤ n ∧ isB (r (o + k) + n) = true := by
  cases hat : growAt k n with
  | false => rw [growE_bad hat] at h; exact absurd h (by decide)
  | true =>
    rw [growE_at hat, Int.toNat_natCast] at h
    cases hok : addOk (sub o r k) n with
    | false => rw [hok] at h; exact absurd h (by decide)
    | true =>
      refine ⟨?_, (growAt_iff.1 hat).2.2, ?_⟩
      · rw [growF_to hat (by rw [Int.toNat_natCast]; exact hok)]
        funext i
        unfold upd bump sub
        rw [Int.toNat_natCast]
        by_cases h1 : o ≤ i ∧ i < o + 16
        · rw [if_pos h1]
          obtain ⟨d, rfl⟩ : ∃ d, i = o + d := ⟨i - o, by omega⟩
          simp only [Nat.add_sub_cancel_left, Nat.add_left_cancel_iff]
        · rw [if_neg h1, if_neg (by omega)]
      · simp only [addOk, Bool.and_eq_true] at hok
        exact hok.2
theorem bump_over {r : Nat → Int} {q : Nat} {n : Int} (h : 0 ≤ n) : overR (bump q n r) r = true := overR_iff.2 fun i _ => by
  unfold bump; split <;> omega
theorem bump_small {B n : Int} {r : Nat → Int} (hr : small B r) (q : Nat) (h0 : 0 ≤ n) : small (B + n) (bump q n r) := fun i hi => by
  have := hr i hi
  unfold bump; split <;> omega
/-- All numbers lie between 0 and 2^30. -/
def inR (x : Int) : Prop := 0 ≤ x ∧ x ≤ 1073741824
theorem small_of_inR {r : Nat → Int} (h : ∀ q, q < 288 → inR (r q)) : small 1073741824 r := fun q hq => by
  have := h q hq
  unfold inR at this
  omega
theorem small_mono {B C : Int} {r : Nat → Int} (h : small B r) (hBC : B ≤ C) : small C r := fun q hq => by
  have := h q hq
  omega
theorem sum_bound {g : Nat → Int} {B : Int} : ∀ n, (∀ j, j < n → 0 ≤ g j ∧ g j ≤ B) → 0 ≤ ((List.range n).map g).sum ∧ ((List.range n).map g).sum ≤ n * B := by
  intro n
  induction n with
  | zero => intro _; simp
  | succ n ih =>
    intro h
    have h1 := ih fun j hj => h j (by omega)
    have h2 := h n (by omega)
    rw [List.range_succ, List.map_append, List.sum_append]
    simp only [List.map_cons, List.map_nil, List.sum_cons, List.sum_nil, Int.add_zero]
    push_cast
    rw [Int.add_mul, Int.one_mul]
    omega
theorem S16_bound {g : Nat → Int} {B : Int} (h : ∀ j, j < 16 → 0 ≤ g j ∧ g j ≤ B) : 0 ≤ S16 g ∧ S16 g ≤ 16 * B := by
  have := sum_bound (g := g) 16 h
  unfold S16
  exact this
theorem free_bound {r : Nat → Int} (h : ∀ q, q < 288 → inR (r q)) {k : Nat} (hk : k < 16) : freeE r k = 0 ∧ -18253611008 ≤ freeN r k ∧ freeN r k ≤ 18253611008 := by
  have hs := small_mono (small_of_inR h) (show (1073741824 : Int) ≤ BB by decide)
  refine ⟨freeE_small hs hk, ?_⟩
  rw [freeN_small hs hk]
  have h1 := h k (by omega)
  have h2 := h (16 + k) (by omega)
  have h3 := S16_bound (g := fun j => mv r j k) (B := 1073741824) fun j hj => h _ (by omega)
  have h4 := S16_bound (g := fun j => mv r k j) (B := 1073741824) fun j hj => h _ (by omega)
  unfold inR at h1 h2
  omega
theorem enough_facts {r : Nat → Int} {k n : Int} (h : enoughE r k n = 0) : 0 ≤ n ∧ freeE r k = 0 ∧ n ≤ freeN r k := by
  unfold enoughE at h
  split at h
  · exact absurd h (by decide)
  · split at h
    · split at h
      · exact absurd h (by decide)
      · exact ⟨by omega, by assumption, by omega⟩
    · rename_i h1; exact absurd h h1
theorem move_facts {r : Nat → Int} (hr : ∀ q, q < 288 → inR (r q)) {i k n : Int} (h : moveE r i k n = 0) :
    ∃ a b : Nat, i = a ∧ k = b ∧ a < 16 ∧ b < 16 ∧ a ≠ b ∧ 0 ≤ n ∧ n ≤ 18253611008 ∧ moveF r i k n = bump (32 + a * 16 + b) n r := by
  cases hat : moveAt i k with
  | false => simp [moveE, hat] at h
  | true =>
    obtain ⟨hi, hk, hik⟩ := moveAt_iff.1 hat
    obtain ⟨h0, h1⟩ := isK_iff.1 hi
    obtain ⟨a, rfl⟩ := Int.eq_ofNat_of_zero_le h0
    obtain ⟨h2, h3⟩ := isK_iff.1 hk
    obtain ⟨b, rfl⟩ := Int.eq_ofNat_of_zero_le h2
    have h' := h
    unfold moveE at h'
    rw [hat, Int.toNat_natCast] at h'
    simp only [if_true] at h'
    by_cases he : enoughE r a n = 0
    · rw [if_pos he] at h'
      obtain ⟨e1, e2, e3⟩ := enough_facts he
      obtain ⟨u1, u2, _⟩ := upd_grow (show b < 16 by omega) h'
      have hb := free_bound hr (show a < 16 by omega)
      refine ⟨a, b, rfl, rfl, by omega, by omega, by omega, e1, by omega, ?_⟩
      unfold moveF
      rw [h, if_pos rfl, Int.toNat_natCast, u1]
    · rw [if_neg he] at h'; exact absurd h' he
theorem mv_bump (r : Nat → Int) (n : Int) (a b : Nat) (hb : b < 16) (c d : Nat) (hd : d < 16) : mv (bump (32 + a * 16 + b) n r) c d = mv r c d + (if c = a then (if d = b then n else 0) else 0) := by
  unfold mv bump
  by_cases h1 : c = a
  · subst h1
    by_cases h2 : d = b
    · subst h2; simp
    · rw [if_neg (by omega), if_pos rfl, if_neg h2]; omega
  · rw [if_neg (by omega), if_neg h1]; omega
theorem bump_past (r : Nat → Int) (n : Int) (q p : Nat) (h : p ≠ q) : bump q n r p = r p := by unfold bump; rw [if_neg h]
theorem move_free {r : Nat → Int} (hr : ∀ q, q < 288 → inR (r q)) {n : Int} (h0 : 0 ≤ n) (h1 : n ≤ 18253611008) {a b : Nat} (ha : a < 16) (hb : b < 16) {j : Nat} (hj : j < 16) :
    freeE (bump (32 + a * 16 + b) n r) j = 0 ∧ freeN (bump (32 + a * 16 + b) n r) j = freeN r j + (if j = b then n else 0) - (if j = a then n else 0) := by
  have hs := small_of_inR hr
  have hx : small BB (bump (32 + a * 16 + b) n r) := small_mono (bump_small hs _ h0) (by unfold BB; omega)
  have hs := small_mono hs (show (1073741824 : Int) ≤ BB by decide)
  refine ⟨freeE_small hx hj, ?_⟩
  rw [freeN_small hx hj, freeN_small hs hj, bump_past _ _ _ _ (by omega), bump_past _ _ _ _ (by omega)]
  rw [S16_upd (g := fun c => mv r c j) (m := a) (d := if j = b then n else 0) ha (fun c _ => mv_bump r n a b hb c j hj)]
  rw [S16_upd (g := fun c => mv r j c) (g' := fun c => mv (bump (32 + a * 16 + b) n r) j c) (m := b) (d := if j = a then n else 0) hb (fun c hc => by
    rw [mv_bump r n a b hb j c hc]
    by_cases h2 : j = a <;> by_cases h3 : c = b <;> simp [h2, h3])]
  omega
theorem move_total {r : Nat → Int} (hr : ∀ q, q < 288 → inR (r q)) {n : Int} (h0 : 0 ≤ n) (h1 : n ≤ 18253611008) (a b : Nat) : totalN (bump (32 + a * 16 + b) n r) = totalN r := by
  have hs := small_of_inR hr
  have hx : small BB (bump (32 + a * 16 + b) n r) := small_mono (bump_small hs _ h0) (by unfold BB; omega)
  have hs := small_mono hs (show (1073741824 : Int) ≤ BB by decide)
  rw [totalN_small hx, totalN_small hs, S16_same (g := r) (g' := bump (32 + a * 16 + b) n r) fun j hj => bump_past _ _ _ _ (by omega),
    S16_same (g := sub 16 r) (g' := sub 16 (bump (32 + a * 16 + b) n r)) fun j hj => bump_past _ _ _ _ (by omega)]
end Go.Proofs.Ytpicfjlcepfneaa
