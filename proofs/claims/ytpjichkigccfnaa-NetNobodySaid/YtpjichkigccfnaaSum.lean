/-
  Layer 1 (num): sums, products; the reference.
-/
import Derived.Test.YtpjichkigccfnaaNum
import Derived.Laws.AppendOwnNone
namespace Go.Proofs.Ytpjichkigccfnaa
set_option maxRecDepth 20000
open Go.RowKit

/-! Sum. -/
/-- The sum of l behind n, as long as all may be. -/
def sumFrom : Int → List Int → Option Int
  | n, [] => some n
  | n, x :: l => if addOk n x then sumFrom (n + x) l else none
def sumN (l : List Int) : Int := (sumFrom 0 l).getD 0
def sumE (l : List Int) : Int := if (sumFrom 0 l).isSome then 0 else 2
theorem sumFrom_snoc (n : Int) (l : List Int) (x : Int) : sumFrom n (l ++ [x]) = (sumFrom n l).bind fun m => if addOk m x then some (m + x) else none := by
  induction l generalizing n with
  | nil => simp [sumFrom]
  | cons y l ih => simp only [List.cons_append, sumFrom]; split <;> simp_all
theorem sumFrom_none {n : Int} {l r : List Int} (h : sumFrom n l = none) : sumFrom n (l ++ r) = none := by
  induction l generalizing n with
  | nil => simp [sumFrom] at h
  | cons y l ih =>
    simp only [List.cons_append, sumFrom] at h ⊢
    split at h
    · rename_i hy; rw [if_pos hy]; exact ih h
    · rename_i hy; rw [if_neg hy]

/-- Where a slice of ints leads: its elements. -/
def IsInts (w : World) (a : Option Addr) (l : List Int) : Prop := ∀ i, i < l.length → ∃ b o, a = some ⟨b, o, none⟩ ∧ w.cell? ⟨b, o + i, none⟩ = some (.int .i64 (l.getD i 0))
theorem IsInts.below {w w' : World} {a : Option Addr} {l : List Int} (h : IsInts w a l) (hb : Below w.heap.size w w') : IsInts w' a l := by
  intro i hi
  obtain ⟨b, o, hx, hc⟩ := h i hi
  exact ⟨b, o, hx, (hb.cell (World.block_lt_of_cell? _ _ hc)).trans hc⟩
theorem isInts_row {w : World} {g o : Nat} {c : Array Value} {t : TypeId} {l : List Int} (hr : rowAt w g = some (c, t)) (h : ∀ i, i < l.length → c[o + i]? = some (.int .i64 (l.getD i 0))) : IsInts w (some ⟨g, o, none⟩) l :=
  fun i hi => ⟨g, o, rfl, by rw [cell_of_rowAt hr, h i hi]⟩
theorem rn_true (n : Int) : rn true n = n := rfl
theorem rn_false (n : Int) : rn false n = 0 := rfl
theorem re_true : re true = 0 := rfl
theorem re_false : re false = 2 := rfl
section
attribute [local go_sem] rn_true rn_false re_true re_false
set_option maxHeartbeats 1000000 in
theorem sumfn_any (p : Nat) (a : Option Addr) (cap : Nat) (l : List Int) (w : World) (hp : rowAt w p = some (#[.slice a l.length cap], 68)) (hl : IsInts w a l) (hlen : l.length ≤ 4611686018427387904) :
    Calls Try.prog 114 #[.pointer (some ⟨p, 0, none⟩)] w fun e w' =>
      (∀ n, sumFrom 0 l = some n → e = .returned (.int .i64 n)) ∧ (sumFrom 0 l = none → e = .panicked [{ v := .iface 30 (.int .i64 2), recovered := false }]) ∧ Below w.heap.size w w' := by
  have hpc : w.cell? ⟨p, 0, none⟩ = some (.slice a l.length cap) := by rw [cell_of_rowAt hp]; rfl
  go_enter Try.func114, Try.ntmps114
  go_wp2_with fail
  go_loopw [2, 7] (fun n i w' => ∃ (k : Nat) (m : Int), k ≤ l.length ∧ i = .int .i64 k ∧ n = .int .i64 m ∧ sumFrom 0 (l.take k) = some m ∧ Below w.heap.size w w') (fun _ i _ => l.length - (intOf i).toNat)
  case atStart => exact ⟨0, 0, Nat.zero_le _, rfl, rfl, rfl, Below.refl _ _⟩
  case round =>
    rename_i wr
    obtain ⟨k, m, hk, rfl, rfl, hs, hb⟩ := hrel
    by_cases hlt : k < l.length
    · obtain ⟨b, off, rfl, hc⟩ := hl k hlt
      have hc' : wr.cell? ⟨b, off + k, none⟩ = some (.int .i64 (l.getD k 0)) := (hb.cell (World.block_lt_of_cell? _ _ hc)).trans hc
      generalize hx : l.getD k 0 = x at hc'
      have Hs := Lib.hid (show sumFrom 0 (l.take (k + 1)) = if addOk m x then some (m + x) else none by
        rw [List.take_succ_eq_append_getElem hlt, sumFrom_snoc, hs]
        simp [← hx, List.getD, List.getElem?_eq_getElem hlt])
      have HB := Lib.hid hb
      have hmb : (k : Int) + 1 ≤ 4611686018427387904 := by omega
      have hsz := hb.size
      clear hs hb hc hl hx hp hpc
      cases hok : addOk m x with
      | true =>
        go_wp2_with (first | (go_at_call 109; refine (add_any _ _ _).mono ?_; rintro e w1 ⟨rfl, hb1⟩; have HB1 := Lib.hid hb1; clear hb1) | (go_at_call 115; refine (must_ok _ _).mono ?_; rintro e w2 ⟨rfl, rfl⟩))
        refine ⟨⟨k + 1, m + x, by omega, by go_num, rfl, by rw [Hs.out, hok]; rfl, HB.out.trans (HB1.out.mono hsz)⟩, by simp [intOf]; omega⟩
      | false =>
        go_wp2_with (first | (go_at_call 109; refine (add_any _ _ _).mono ?_; rintro e w1 ⟨rfl, hb1⟩; have HB1 := Lib.hid hb1; clear hb1) | (go_at_call 115; refine (must_err _ _ _ (by decide)).mono ?_; rintro e w2 ⟨rfl, rfl⟩))
        have hn : sumFrom 0 l = none := by
          have h1 := Hs.out
          rw [hok] at h1
          have h2 := sumFrom_none (r := l.drop (k + 1)) h1
          rwa [List.take_append_drop] at h2
        exact ⟨rfl, (fun n h => by rw [hn] at h; cases h), (fun _ => rfl), HB.out.trans (HB1.out.mono hsz)⟩
    · obtain rfl : k = l.length := by omega
      rw [List.take_length] at hs
      have Hs := Lib.hid hs
      have HB := Lib.hid hb
      clear hs hb hl hp hpc
      go_wp2
      go_ret
      exact ⟨(fun n h => by rw [Hs.out] at h; injection h with h; rw [← h]; rfl), (fun h => by rw [Hs.out] at h; cases h), HB.out⟩
set_option maxHeartbeats 400000 in
theorem sum_any (a : Option Addr) (cap : Nat) (l : List Int) (w : World) (hl : IsInts w a l) (hlen : l.length ≤ 4611686018427387904) :
    Calls Try.prog 111 #[.slice a l.length cap] w fun e w' => e = .returned (.tuple #[.int .i64 (sumN l), .int .i64 (sumE l)]) ∧ Below w.heap.size w w' := by
  have hmf : ∀ (fn : Fn) (first cap : Array Value) (w : World), (Instr.makeFunc fn first cap).run Try.prog w = .ok (.func fn first cap) w := fun _ _ _ _ => rfl
  have hF : ∀ w, (callFunc 114 #[.pointer (some ⟨w.heap.size, 0, none⟩)]).run Try.prog w = .ok (.enter 114 #[.pointer (some ⟨w.heap.size, 0, none⟩)]) w := fun w => by simp [go_sem]
  have hb0 : Below w.heap.size w (w.alloc (.cells #[.slice a l.length cap] 68)) := (Below.refl _ _).alloc (Nat.le_refl _) _
  have key : ∀ w1, (w.alloc (.cells #[.slice a l.length cap] 68)).heap.size ≤ w1.heap.size → Below (w.alloc (.cells #[.slice a l.length cap] 68)).heap.size (w.alloc (.cells #[.slice a l.length cap] 68)) w1 →
      Calls Try.prog 114 #[.pointer (some ⟨w.heap.size, 0, none⟩)] w1 fun e w' =>
      (∀ n, sumFrom 0 l = some n → e = .returned (.int .i64 n)) ∧ (sumFrom 0 l = none → e = .panicked [{ v := .iface 30 (.int .i64 2), recovered := false }]) ∧ Below w1.heap.size w1 w' := fun w1 _ hb =>
    sumfn_any w.heap.size a cap l w1 ((rowAt_below hb _ (by simp)).trans (rowAt_alloc_at _ _ _ _ rfl)) ((hl.below hb0).below hb) hlen
  have hfin : Calls Try.prog 113 #[.func (.func 114) #[] #[.pointer (some ⟨w.heap.size, 0, none⟩)]] (w.alloc (.cells #[.slice a l.length cap] 68)) fun e w' =>
      e = .returned (.tuple #[.int .i64 (sumN l), .int .i64 (sumE l)]) ∧ Below (w.alloc (.cells #[.slice a l.length cap] 68)).heap.size (w.alloc (.cells #[.slice a l.length cap] 68)) w' := by
    cases hs : sumFrom 0 l with
    | some n =>
      have e1 : sumN l = n := by simp [sumN, hs]
      have e2 : sumE l = 0 := by simp [sumE, hs]
      rw [e1, e2]
      exact try_ret _ _ n _ (fun w => by simp [go_sem]) fun w1 h1 h2 => (key w1 (by omega) h2).mono fun e w' h => ⟨h.1 n hs, h.2.2⟩
    | none =>
      have e1 : sumN l = 0 := by simp [sumN, hs]
      have e2 : sumE l = 2 := by simp [sumE, hs]
      rw [e1, e2]
      exact try_err _ _ 2 _ (fun w => by simp [go_sem]) fun w1 h1 h2 => (key w1 (by omega) h2).mono fun e w' h => ⟨h.2.1 hs, h.2.2⟩
  have Hfin := Lib.hid hfin
  have H0 := Lib.hid hb0
  clear hF key hfin hb0 hl
  go_enter Try.func111, Try.ntmps111
  go_wp2_with fail
  refine (Hfin.out).mono ?_
  rintro e w1 ⟨rfl, hb1⟩
  have HB := Lib.hid (H0.out.trans (hb1.mono (by simp)))
  clear hb1 H0 Hfin
  go_wp2
  go_ret2
  exact ⟨rfl, HB.out⟩
end

/-! The reference. -/
set_option maxHeartbeats 400000 in
theorem ris_any (n : Int) (w : World) : Calls Try.prog 47 #[.int .i64 n] w fun e w' => e = .returned (.bool (isB n)) ∧ w = w' := by
  by_cases h : n ≤ 1099511627776
  all_goals
    go_enter Try.func47, Try.ntmps47
    go_wp2
    go_ret
    refine ⟨?_, rfl⟩
    simp [isB]
    try omega
attribute [local go_sem] rn_true rn_false re_true re_false
theorem addOk_wrap {a b : Int} (ha : isB a = true) (hb : isB b = true) : isB (wrap64 (a + b)) = isB (a + b) := by
  have h1 := isB_iff.1 ha
  have h2 := isB_iff.1 hb
  rw [show wrap64 (a + b) = a + b by unfold wrap64; omega]
theorem subOk_wrap {a b : Int} (ha : isB a = true) (hb : isB b = true) : isB (wrap64 (a - b)) = isB (a - b) := by
  have h1 := isB_iff.1 ha
  have h2 := isB_iff.1 hb
  rw [show wrap64 (a - b) = a - b by unfold wrap64; omega]
set_option maxHeartbeats 1000000 in
theorem radd_any (a b : Int) (w : World) : Calls Try.prog 95 #[.int .i64 a, .int .i64 b] w fun e w' =>
    e = .returned (.tuple #[.int .i64 (rn (addOk a b) (a + b)), .int .i64 (re (addOk a b))]) ∧ w = w' := by
  cases ha : isB a
  · go_enter Try.func95, Try.ntmps95
    go_wp2_with (go_at_call 47; refine (ris_any _ _).mono ?_; rintro e w1 ⟨rfl, rfl⟩)
    go_ret2
    exact ⟨by simp [addOk, ha, rn, re], rfl⟩
  · cases hb : isB b
    · go_enter Try.func95, Try.ntmps95
      go_wp2_with (go_at_call 47; refine (ris_any _ _).mono ?_; rintro e w1 ⟨rfl, rfl⟩)
      go_ret2
      exact ⟨by simp [addOk, hb, rn, re], rfl⟩
    · have Hw := Lib.hid (addOk_wrap ha hb)
      have h1 := isB_iff.1 ha
      have h2 := isB_iff.1 hb
      obtain ⟨h1, h3⟩ := h1
      obtain ⟨h2, h4⟩ := h2
      cases hc : isB (a + b)
      all_goals
        go_enter Try.func95, Try.ntmps95
        go_wp2_with (go_at_call 47; refine (ris_any _ _).mono ?_; rintro e w1 ⟨rfl, rfl⟩)
        go_ret2
        exact ⟨by simp [addOk, ha, hb, hc, rn, re], rfl⟩
set_option maxHeartbeats 1000000 in
theorem rsum_any (a : Option Addr) (cap : Nat) (l : List Int) (w : World) (hl : IsInts w a l) (hlen : l.length ≤ 4611686018427387904) :
    Calls Try.prog 105 #[.slice a l.length cap] w fun e w' => e = .returned (.tuple #[.int .i64 (sumN l), .int .i64 (sumE l)]) ∧ w = w' := by
  go_enter Try.func105, Try.ntmps105
  go_wp2_with fail
  go_loop [4, 5] (fun n i => ∃ (k : Nat) (m : Int), k ≤ l.length ∧ i = .int .i64 k ∧ n = .int .i64 m ∧ sumFrom 0 (l.take k) = some m) (fun _ i => l.length - (intOf i).toNat)
  case atStart => exact ⟨0, 0, Nat.zero_le _, rfl, rfl, rfl⟩
  case round =>
    obtain ⟨k, m, hk, rfl, rfl, hs⟩ := hrel
    by_cases hlt : k < l.length
    · obtain ⟨b, off, rfl, hc'⟩ := hl k hlt
      generalize hx : l.getD k 0 = x at hc'
      have Hs := Lib.hid (show sumFrom 0 (l.take (k + 1)) = if addOk m x then some (m + x) else none by
        rw [List.take_succ_eq_append_getElem hlt, sumFrom_snoc, hs]
        simp [← hx, List.getD, List.getElem?_eq_getElem hlt])
      have hmb : (k : Int) + 1 ≤ 4611686018427387904 := by omega
      clear hs hl hx
      cases hok : addOk m x with
      | true =>
        go_wp2_with (go_at_call 95; refine (radd_any _ _ _).mono ?_; rintro e w1 ⟨rfl, rfl⟩)
        go_round
        case rel => exact ⟨k + 1, m + x, by omega, by go_num, rfl, by rw [Hs.out, hok]; rfl⟩
        case measure => simp [intOf]; omega
      | false =>
        go_wp2_with (go_at_call 95; refine (radd_any _ _ _).mono ?_; rintro e w1 ⟨rfl, rfl⟩)
        go_ret2
        have hn : sumFrom 0 l = none := by
          have h1 := Hs.out
          rw [hok] at h1
          have h2 := sumFrom_none (r := l.drop (k + 1)) h1
          rwa [List.take_append_drop] at h2
        exact ⟨by simp [sumN, sumE, hn], rfl⟩
    · obtain rfl : k = l.length := by omega
      rw [List.take_length] at hs
      have Hs := Lib.hid hs
      clear hs hl
      go_wp2
      go_ret2
      exact ⟨by simp [sumN, sumE, Hs.out], rfl⟩

/-! Slices of ints that a call makes itself. -/
/-- v owns the ints xs, in a block from base on. -/
def OwnI (w : World) (base : Nat) (v : Value) (xs : List Int) : Prop := w.ownsRow base 3 1 v xs.length (xs.map (Value.int .i64))
theorem OwnI.isInts {w : World} {base : Nat} {v : Value} {xs : List Int} (h : OwnI w base v xs) : ∃ a cap, v = .slice a xs.length cap ∧ IsInts w a xs ∧ (a = none → cap = 0) := by
  rcases h.2 with ⟨hv, hn⟩ | ⟨g, cap, cur, hv, hbg, hg, hnc, hcm, hcs, htk⟩
  · have : xs = [] := List.eq_nil_of_length_eq_zero hn
    subst this
    exact ⟨none, 0, hv, fun i hi => absurd hi (by simp), fun _ => rfl⟩
  · refine ⟨some ⟨g, 0, none⟩, cap, hv, fun i hi => ⟨g, 0, rfl, ?_⟩, fun h => by cases h⟩
    have h1 : (cur.toList.take (xs.length * 1))[i]? = cur[i]? := by rw [List.getElem?_take, if_pos (by omega)]; simp
    rw [Nat.zero_add, cell_of_row w g i cur _ _ hg, ← h1, htk]
    simp [List.getD, List.getElem?_eq_getElem hi]
theorem OwnI.nil (w : World) (base : Nat) : OwnI w base (.slice none 0 0) [] := World.ownsRow_nil w base _ _
theorem OwnI.mono {w : World} {base base' : Nat} {v : Value} {xs : List Int} (h : OwnI w base v xs) (hb : base' ≤ base) : OwnI w base' v xs := by
  refine ⟨h.1, h.2.imp id ?_⟩
  rintro ⟨g, cap, cur, h1, h2, h3⟩
  exact ⟨g, cap, cur, h1, by omega, h3⟩
theorem OwnI.below {w w' : World} {base : Nat} {v : Value} {xs : List Int} (h : OwnI w base v xs) (hb : Below w.heap.size w w') : OwnI w' base v xs := by
  refine ⟨h.1, h.2.imp id ?_⟩
  rintro ⟨g, cap, cur, h1, h2, h3, h4⟩
  exact ⟨g, cap, cur, h1, h2, (hb.block g (Array.getElem?_eq_some_iff.1 h3).1).trans h3, h4⟩
/-- A block that was just laid. -/
theorem OwnI.row {w : World} {g : Nat} {xs : List Int} (hr : rowAt w g = some ((xs.map (Value.int .i64)).toArray, 3)) (hl : xs.length ≤ 9223372036854775807) : OwnI w g (.slice (some ⟨g, 0, none⟩) xs.length xs.length) xs :=
  ⟨by simp, .inr ⟨g, xs.length, _, rfl, Nat.le_refl _, rowAt_iff.1 hr, Nat.le_refl _, by unfold maxLen; omega, by simp, by simp [List.take_of_length_le]⟩⟩
theorem info_int : ∃ i, Try.prog.info? 3 = some i ∧ i.zero = some (.int .i64 0) ∧ i.size = 1 ∧ i.bytes = 8 :=
  info_parts (show (Try.prog.info? 3).map (fun i => (i.zero, i.size, i.bytes)) = some (some (.int .i64 0), 1, 8) by kernel_rfl)
/-- append of ints to a slice of the call's own. -/
theorem wl_append_ints {ops : Array Oper} {rest : List Oper} {o : Oper} {a : Act} {w : World} {Q : Exit → Act → World → Prop} (hgd : o.guard = none) (s x : Operand)
    (ho : o.op = .call { callee := .builtin .append, args := #[s, x], argTypes := #[68, 68] }) (base : Nat) (v : Value) (xs ys : List Int) (A : Option Addr) (c : Nat)
    (hs : a.eval s = v) (hown : OwnI w base v xs) (hx : a.eval x = .slice A ys.length c) (hy : IsInts w A ys) (hA : A = none → c = 0) (hlen : xs.length + ys.length ≤ 17592186044416) (hbase : base ≤ w.heap.size)
    (h : ∀ v' w', OwnI w' base v' (xs ++ ys) → w.grownBy w' v.ownBlock → wpList Try.prog ops Q rest (a.put o.dst v') w') : wpList Try.prog ops Q (o :: rest) a w := by
  obtain ⟨i0, hi, hz0, hz1, hz2⟩ := info_int
  cases A with
  | none =>
    have : ys = [] := by
      cases ys with
      | nil => rfl
      | cons y ys => obtain ⟨b, o, h1, _⟩ := hy 0 (by simp); cases h1
    subst this
    rw [hA rfl] at hx
    refine wpList_append_own_none hgd s x _ ho base 3 i0 1 Try.underlying68 hi v _ _ hs hown hx (h _ _ (by rw [List.append_nil]; exact hown) ⟨rfl, rfl, rfl, Nat.le_refl _, fun _ _ _ => rfl⟩)
  | some ad =>
    refine wpList_append_own _ hgd s x _ ho base 3 i0 (.int .i64 0) 1 8 Try.underlying68 hi hz0 hz1 hz2 rfl (by decide) v _ _ hs hown ad ys.length c (ys.map (Value.int .i64)) hx (by simp) ?_ ?_ (by unfold maxLen; omega) (by omega) hbase ?_
    · intro j u hu
      have hj : j < ys.length := by
        have := (List.getElem?_eq_some_iff.1 hu).1
        simpa using this
      obtain ⟨b, off, h1, h2⟩ := hy j hj
      injection h1 with h1
      subst h1
      rw [Addr.add_lit, h2]
      simp [List.getElem?_eq_getElem hj] at hu
      simp [List.getD, List.getElem?_eq_getElem hj, hu]
    · intro u hu
      obtain ⟨n, _, rfl⟩ := List.mem_map.1 hu
      rfl
    · intro v' w' h1 h2 _
      exact h v' w' (by unfold OwnI; rw [List.length_append, List.map_append]; exact h1) h2

theorem sum_nn (l : List Int) (hl : ∀ x ∈ l, 0 ≤ x) : 0 ≤ l.sum := by
  induction l with
  | nil => simp
  | cons x l ih =>
    have h1 := hl x (by simp)
    have h2 := ih (fun y hy => hl y (List.mem_cons_of_mem _ hy))
    rw [List.sum_cons]; omega
/-- Sums of numbers that are not below 0. -/
theorem sumFrom_pos (l : List Int) (hl : ∀ x ∈ l, 0 ≤ x) : ∀ n, 0 ≤ n → n ≤ 1099511627776 → sumFrom n l = if n + l.sum ≤ 1099511627776 then some (n + l.sum) else none := by
  induction l with
  | nil => intro n h0 h1; simp [sumFrom, h1]
  | cons x l ih =>
    intro n h0 h1
    have hx := hl x (by simp)
    have hs : 0 ≤ l.sum := sum_nn l (fun y hy => hl y (List.mem_cons_of_mem _ hy))
    rw [show (x :: l).sum = x + l.sum from List.sum_cons]
    simp only [sumFrom]
    by_cases hok : x ≤ 1099511627776 ∧ n + x ≤ 1099511627776
    · have : addOk n x = true := by
        unfold addOk
        rw [isB_iff.2 (show _ ∧ _ by omega), isB_iff.2 (show -1099511627776 ≤ x ∧ x ≤ 1099511627776 by omega), isB_iff.2 (show -1099511627776 ≤ n + x ∧ n + x ≤ 1099511627776 by omega)]; rfl
      rw [if_pos this, ih (fun y hy => hl y (List.mem_cons_of_mem _ hy)) (n + x) (by omega) (by omega), Int.add_assoc]
    · have : addOk n x = false := by
        cases h : addOk n x with
        | false => rfl
        | true =>
          simp only [addOk, Bool.and_eq_true] at h
          have h2 := isB_iff.1 h.1.2
          have h3 := isB_iff.1 h.2
          omega
      rw [if_neg (by rw [this]; decide), if_neg (by omega)]
theorem sumN_pos {l : List Int} (hl : ∀ x ∈ l, 0 ≤ x) : sumN l = if l.sum ≤ 1099511627776 then l.sum else 0 := by
  unfold sumN
  rw [sumFrom_pos l hl 0 (by omega) (by omega), Int.zero_add]
  split <;> rfl
theorem sumE_pos {l : List Int} (hl : ∀ x ∈ l, 0 ≤ x) : sumE l = if l.sum ≤ 1099511627776 then 0 else 2 := by
  unfold sumE
  rw [sumFrom_pos l hl 0 (by omega) (by omega), Int.zero_add]
  by_cases h : l.sum ≤ 1099511627776 <;> simp [h]

/-! Slices of a slice of ints. -/
theorem IsInts.take {w : World} {A : Option Addr} {l : List Int} (h : IsInts w A l) (k : Nat) : IsInts w A (l.take k) := by
  intro i hi
  have hl : i < l.length ∧ i < k := by simp at hi; omega
  obtain ⟨b, o, h1, h2⟩ := h i hl.1
  exact ⟨b, o, h1, by rw [h2]; simp [List.getD, hl.2]⟩
theorem IsInts.drop {w : World} {A A' : Option Addr} {l : List Int} (h : IsInts w A l) (k : Nat) (hA : k < l.length → A' = A.map (·.add k)) : IsInts w A' (l.drop k) := by
  intro i hi
  have hl : k + i < l.length := by simp at hi; omega
  obtain ⟨b, o, h1, h2⟩ := h (k + i) hl
  refine ⟨b, o + k, ?_, ?_⟩
  · rw [hA (by omega), h1]; simp [Addr.add_lit]
  · rw [Nat.add_assoc, h2]; simp [List.getD]
theorem wl_slice_to {ops : Array Oper} {rest : List Oper} {o : Oper} {a : Act} {w : World} {Q : Exit → Act → World → Prop} (hgd : o.guard = none) (x y : Operand)
    (ho : o.op = .slice 68 x none (some y) none) (A : Option Addr) (n c k : Nat) (hx : a.eval x = .slice A n c) (hy : a.eval y = .int .i64 k) (hk : k ≤ c)
    (h : wpList Try.prog ops Q rest (a.put o.dst (.slice A k c)) w) : wpList Try.prog ops Q (o :: rest) a w := by
  refine wpList_plain hgd fun K hK => ?_
  obtain ⟨i0, hi, _, _, _⟩ := info_int
  unfold Oper.wp execOp
  have e : (A.map fun x => x.add 0) = A := by cases A <;> simp [Addr.add]
  simp [ho, hx, hy, Instr.sliceAt, Instr.slice, Sem.run_bind, run_underlying Try.underlying68, Instr.sliceBounds, Instr.sliceBound, asIntOf, hk, sizeOf, typeInfo, hi, e]
  exact hK _ _ h
theorem wl_slice_from {ops : Array Oper} {rest : List Oper} {o : Oper} {a : Act} {w : World} {Q : Exit → Act → World → Prop} (hgd : o.guard = none) (x y : Operand)
    (ho : o.op = .slice 68 x (some y) none none) (A : Option Addr) (n c k : Nat) (hx : a.eval x = .slice A n c) (hy : a.eval y = .int .i64 k) (hk : k ≤ n)
    (h : ∀ A', (k < c → A' = A.map (·.add k)) → wpList Try.prog ops Q rest (a.put o.dst (.slice A' (n - k) (c - k))) w) : wpList Try.prog ops Q (o :: rest) a w := by
  refine wpList_plain hgd fun K hK => ?_
  obtain ⟨i0, hi, _, hz1, _⟩ := info_int
  unfold Oper.wp execOp
  simp [ho, hx, hy, Instr.sliceAt, Instr.slice, Sem.run_bind, run_underlying Try.underlying68, Instr.sliceBounds, Instr.sliceBound, asIntOf, hk, sizeOf, typeInfo, hi, hz1]
  exact hK _ _ (h (if c = k then A else A.map (·.add k)) (fun hlt => by rw [if_neg (by omega)]))
end Go.Proofs.Ytpjichkigccfnaa
