/-
  Layer 1 (num) and its reference: what each function does, function by function.
-/
import Derived.Test.YtpjichkigccfnaaProg
import Derived.Test.YtpjichkigccfnaaBase
import Derived.Recover
namespace Go.Proofs.Ytpjichkigccfnaa
set_option maxRecDepth 20000
open Go.RowKit

/-- A number that may be. -/
def isB (n : Int) : Bool := decide (-1099511627776 ≤ n) && decide (n ≤ 1099511627776)
theorem isB_iff {n : Int} : isB n = true ↔ -1099511627776 ≤ n ∧ n ≤ 1099511627776 := by simp [isB]
theorem isB_not {n : Int} : isB n = false ↔ ¬ (-1099511627776 ≤ n ∧ n ≤ 1099511627776) := by rw [← isB_iff]; simp

set_option maxHeartbeats 400000 in
theorem is_any (n : Int) (w : World) : Calls Try.prog 43 #[.int .i64 n] w fun e w' => e = .returned (.bool (isB n)) ∧ w = w' := by
  by_cases h : -1099511627776 ≤ n
  all_goals
    go_enter Try.func43, Try.ntmps43
    go_wp2
    go_ret
    refine ⟨?_, rfl⟩
    simp [isB]
    try omega

/-- The number, if all may be, and the error. -/
def rn (ok : Bool) (n : Int) : Int := if ok then n else 0
def re (ok : Bool) : Int := if ok then 0 else 2
/-- What a row of three is checked for. -/
def all3 (n a b : Int) : Bool := isB a && isB b && isB n
set_option maxHeartbeats 1000000 in
theorem checked_any (n a b : Int) (g : Nat) (w : World) (hr : rowAt w g = some (#[.int .i64 a, .int .i64 b], 3)) :
    Calls Try.prog 112 #[.int .i64 n, .slice (some ⟨g, 0, none⟩) 2 2] w fun e w' =>
      e = .returned (.tuple #[.int .i64 (rn (all3 n a b) n), .int .i64 (re (all3 n a b))]) ∧ Below g w w' := by
  have hg := rowAt_lt hr
  have hown : w.ownsRow g 3 1 (.slice (some ⟨g, 0, none⟩) 2 2) 2 [.int .i64 a, .int .i64 b] :=
    ⟨rfl, .inr ⟨g, 2, _, rfl, Nat.le_refl _, rowAt_iff.1 hr, by omega, by decide, rfl, rfl⟩⟩
  obtain ⟨i0, hi, hz0, hz1, hz2⟩ := info_parts (show (Try.prog.info? 3).map (fun i => (i.zero, i.size, i.bytes)) = some (some (.int .i64 0), 1, 8) by kernel_rfl)
  go_enter Try.func112, Try.ntmps112
  go_wp2_with (at_builtin; refine wpList_append_own _ rfl _ _ 68 rfl g 3 i0 (.int .i64 0) 1 8 Try.underlying68 hi hz0 hz1 hz2 rfl (by decide) _ _ _ rfl (hown.alloc _) ⟨w.heap.size, 0, none⟩ 1 1 [.int .i64 n] rfl rfl ?c1 ?c2 ?c3 ?c4 ?c5 ?_)
  case c1 => exact cell_one_new _ _ _
  case c2 => simp [Value.oneCell']
  case c3 => decide
  case c4 => decide
  case c5 => simp; omega
  intro v' w1 hown1 hgrow hnn
  obtain ⟨hlen, h0 | ⟨g', cap, cur, rfl, hg', hcur, hnc, hcap, hcs, htk⟩⟩ := hown1
  · exact absurd h0.1 hnn
  clear hnn
  have hb : Below g w w1 := ((Below.refl g w).alloc (by omega) _).trans ⟨hgrow.os, hgrow.tape, hgrow.output, hgrow.size, fun k hk => hgrow.block k (by simp; omega) (by simp [Value.ownBlock]; omega)⟩
  have hcell : ∀ k : Nat, k < 3 → w1.cell? ⟨g', k, none⟩ = some (.int .i64 ([a, b, n].getD k 0)) := by
    intro k hk
    rw [cell_of_row w1 g' k cur _ _ hcur]
    have h1 : (cur.toList.take 3)[k]? = cur[k]? := by rw [List.getElem?_take, if_pos hk]; simp
    rw [← h1, htk]
    match k, hk with
    | 0, _ => rfl
    | 1, _ => rfl
    | 2, _ => rfl
  clear htk hcs hlen hgrow hown hcur
  go_wp2
  go_loop [13] (fun i => ∃ k : Nat, k ≤ 3 ∧ i = .int .i64 k ∧ ∀ j, j < k → isB ([a, b, n].getD j 0) = true) (fun i => 3 - (intOf i).toNat)
  case atStart => exact ⟨0, by omega, rfl, fun j hj => by omega⟩
  case round =>
    obtain ⟨k, hk, rfl, hall⟩ := hrel
    by_cases hlt : k < 3
    · have hc := hcell k hlt
      generalize hx : [a, b, n].getD k 0 = x at hc
      have Hx := Lib.hid hx
      have HB := Lib.hid hb
      clear hx hcell hb
      cases hbx : isB x with
      | true =>
        go_wp2_with (go_at_call 43; refine (is_any _ _).mono ?_; rintro e w' ⟨rfl, rfl⟩)
        go_round
        case rel =>
          refine ⟨k + 1, by omega, by go_num, fun j hj => ?_⟩
          by_cases hjk : j = k
          · rw [hjk, Hx.out]; exact hbx
          · exact hall j (by omega)
        case measure => simp [intOf]; omega
      | false =>
        go_wp2_with (go_at_call 43; refine (is_any _ _).mono ?_; rintro e w' ⟨rfl, rfl⟩)
        go_ret2
        have hf : all3 n a b = false := by
          have := Hx.out
          unfold all3
          match k, hlt, this with
          | 0, _, h => rw [show a = x from h, hbx]; rfl
          | 1, _, h => rw [show b = x from h, hbx]; simp
          | 2, _, h => rw [show n = x from h, hbx]; simp
        exact ⟨by rw [hf]; rfl, HB.out⟩
    · have HB := Lib.hid hb
      clear hcell hb
      go_wp2
      go_ret2
      have ht : all3 n a b = true := by
        unfold all3
        rw [show isB a = true from hall 0 (by omega), show isB b = true from hall 1 (by omega), show isB n = true from hall 2 (by omega)]
        rfl
      exact ⟨by rw [ht]; rfl, HB.out⟩

def addOk (a b : Int) : Bool := isB a && isB b && isB (a + b)
def subOk (a b : Int) : Bool := isB a && isB b && isB (a - b)
def mulOk (a b : Int) : Bool := isB a && isB b && isB (a * b)
theorem all3_add (a b : Int) : all3 (wrap64 (a + b)) a b = addOk a b := by
  unfold all3 addOk
  by_cases h : isB a = true ∧ isB b = true
  · rw [h.1, h.2]
    have h1 := isB_iff.1 h.1
    have h2 := isB_iff.1 h.2
    rw [show wrap64 (a + b) = a + b by unfold wrap64; omega]
  · cases ha : isB a <;> cases hb : isB b <;> simp_all
theorem all3_sub (a b : Int) : all3 (wrap64 (a - b)) a b = subOk a b := by
  unfold all3 subOk
  by_cases h : isB a = true ∧ isB b = true
  · rw [h.1, h.2]
    have h1 := isB_iff.1 h.1
    have h2 := isB_iff.1 h.2
    rw [show wrap64 (a - b) = a - b by unfold wrap64; omega]
  · cases ha : isB a <;> cases hb : isB b <;> simp_all
theorem rn_wrap_add (a b : Int) : rn (addOk a b) (wrap64 (a + b)) = rn (addOk a b) (a + b) := by
  unfold rn
  split
  · rename_i h
    simp only [addOk, Bool.and_eq_true] at h
    have h1 := isB_iff.1 h.1.1
    have h2 := isB_iff.1 h.1.2
    unfold wrap64; omega
  · rfl
theorem rn_wrap_sub (a b : Int) : rn (subOk a b) (wrap64 (a - b)) = rn (subOk a b) (a - b) := by
  unfold rn
  split
  · rename_i h
    simp only [subOk, Bool.and_eq_true] at h
    have h1 := isB_iff.1 h.1.1
    have h2 := isB_iff.1 h.1.2
    unfold wrap64; omega
  · rfl

set_option maxHeartbeats 400000 in
theorem add_any (a b : Int) (w : World) : Calls Try.prog 109 #[.int .i64 a, .int .i64 b] w fun e w' =>
    e = .returned (.tuple #[.int .i64 (rn (addOk a b) (a + b)), .int .i64 (re (addOk a b))]) ∧ Below w.heap.size w w' := by
  go_enter Try.func109, Try.ntmps109
  go_wp2_with (go_at_call 112; refine (checked_any (wrap64 (a + b)) a b w.heap.size _ (rowAt_alloc_at _ _ _ _ rfl)).mono ?_; rintro e w1 ⟨rfl, hb1⟩)
  go_ret2
  exact ⟨by rw [all3_add, rn_wrap_add]; rfl, ((Below.refl _ _).alloc (Nat.le_refl _) _).trans hb1⟩
set_option maxHeartbeats 400000 in
theorem must_ok (n : Int) (w : World) : Calls Try.prog 115 #[.int .i64 n, .int .i64 0] w fun e w' => e = .returned (.int .i64 n) ∧ w = w' := by
  go_enter Try.func115, Try.ntmps115
  go_wp2
  go_ret
  exact ⟨rfl, rfl⟩
set_option maxHeartbeats 400000 in
theorem must_err (n er : Int) (w : World) (h : er ≠ 0) : Calls Try.prog 115 #[.int .i64 n, .int .i64 er] w fun e w' => e = .panicked [{ v := .iface 30 (.int .i64 er), recovered := false }] ∧ w = w' := by
  have hne : (er != 0) = true := by simpa using h
  go_enter Try.func115, Try.ntmps115
  go_wp2
  exact ⟨rfl, rfl, rfl⟩

/-! Try. -/
theorem caught_idle (pe pn : Addr) (w : World) :
    CallsD Try.prog 116 #[.pointer (some pe), .pointer (some pn)] .returning w fun e u' w' => e = .returned (.tuple #[]) ∧ u' = .returning ∧ w' = w := by
  refine callsD_of_wpS Try.func116 rfl fun c₀ cs hu => ?_
  apply wpS_seq
  apply wpS_region
  simp [wpOpsS, go_sem, recoverD, hu, Try.ntmps116, Exit.thenS]
  refine wpS_of_wp ?_
  simp only [Array.replicate_succ, Array.replicate_zero, List.push_toArray, List.append_toArray, List.nil_append, List.cons_append, List.setIfInBounds_toArray, List.set_cons_succ, List.set_cons_zero]
  go_wp2
  cases c₀
  simp_all [bodyPostS, results, Try.results116]
theorem assert_errno (n : Int) (w : World) : (Instr.typeAssert (.iface 30 (.int .i64 n)) 20 30 true).run Try.prog w = .ok (.tuple #[.int .i64 n, .bool true]) w := by kernel_rfl
theorem assert_string (s : ByteArray) (w : World) : (Instr.typeAssert (.iface 9 (.string s)) 20 30 true).run Try.prog w = .ok (.tuple #[.int .i64 0, .bool false]) w := by kernel_rfl
theorem eql_nil_func (w : World) : (binOp .eql 60 .nilFunc .nilFunc).run Try.prog w = .ok (.bool true) w := by kernel_rfl
theorem eql_func_nil (f : Fn) (a b : Array Value) (w : World) : (binOp .eql 60 (.func f a b) .nilFunc).run Try.prog w = .ok (.bool false) w := by kernel_rfl
theorem caught_err (b : Nat) (er x y : Int) (older : List PanicEntry) (w : World) (h1 : w.cell? ⟨b + 1, 0, none⟩ = some (.int .i64 x)) (h2 : w.frozen? ⟨b + 1, 0, none⟩ = false) (h3 : w.cell? ⟨b, 0, none⟩ = some (.int .i64 y)) (h4 : w.frozen? ⟨b, 0, none⟩ = false) :
    CallsD Try.prog 116 #[.pointer (some ⟨b + 1, 0, none⟩), .pointer (some ⟨b, 0, none⟩)] (.panicking ({ v := .iface 30 (.int .i64 er), recovered := false } :: older)) w fun e u' w' =>
      e = .returned (.tuple #[]) ∧ u' = .panicking ({ v := .iface 30 (.int .i64 er), recovered := true } :: older) ∧ w' = (w.setCell ⟨b + 1, 0, none⟩ (.int .i64 er)).setCell ⟨b, 0, none⟩ (.int .i64 0) := by
  have hta := assert_errno
  refine callsD_of_wpS Try.func116 rfl fun c₀ cs hu => ?_
  apply wpS_seq
  apply wpS_region
  simp [wpOpsS, go_sem, recoverD, hu, Try.ntmps116, Exit.thenS]
  refine wpS_of_wp ?_
  simp only [Array.replicate_succ, Array.replicate_zero, List.push_toArray, List.append_toArray, List.nil_append, List.cons_append, List.setIfInBounds_toArray, List.set_cons_succ, List.set_cons_zero]
  go_wp2
  simp [bodyPostS, results, Try.results116]
theorem caught_other (b : Nat) (s : ByteArray) (x : Int) (older : List PanicEntry) (w : World) (h1 : w.cell? ⟨b + 1, 0, none⟩ = some (.int .i64 x)) (h2 : w.frozen? ⟨b + 1, 0, none⟩ = false) :
    CallsD Try.prog 116 #[.pointer (some ⟨b + 1, 0, none⟩), .pointer (some ⟨b, 0, none⟩)] (.panicking ({ v := .iface 9 (.string s), recovered := false } :: older)) w fun e u' w' =>
      e = .panicked [{ v := .iface 9 (.string s), recovered := false }] ∧ u' = .panicking ({ v := .iface 9 (.string s), recovered := true } :: older) ∧ w' = w.setCell ⟨b + 1, 0, none⟩ (.int .i64 0) := by
  have hta := assert_string
  refine callsD_of_wpS Try.func116 rfl fun c₀ cs hu => ?_
  apply wpS_seq
  apply wpS_region
  simp [wpOpsS, go_sem, recoverD, hu, Try.ntmps116, Exit.thenS]
  refine wpS_of_wp ?_
  simp only [Array.replicate_succ, Array.replicate_zero, List.push_toArray, List.append_toArray, List.nil_append, List.cons_append, List.setIfInBounds_toArray, List.set_cons_succ, List.set_cons_zero]
  go_wp2
  simp [bodyPostS]
set_option maxHeartbeats 400000 in
theorem try_nil (w : World) : Calls Try.prog 113 #[.nilFunc] w fun e w' => e = .returned (.tuple #[.int .i64 0, .int .i64 2]) ∧ Below w.heap.size w w' := by
  have hmf : ∀ (fn : Fn) (first cap : Array Value) (w : World), (Instr.makeFunc fn first cap).run Try.prog w = .ok (.func fn first cap) w := fun _ _ _ _ => rfl
  have hen := eql_nil_func
  go_enter_defers Try.func113, Try.ntmps113
  go_wp2
  simp [bodyPostD, Leaves, results, Try.results113, go_sem]
  exact ((Below.refl _ _).alloc (Nat.le_refl _) _).alloc (by simp) _
set_option maxHeartbeats 400000 in
theorem try_ret (F : FuncId) (caps : Array Value) (n : Int) (w : World) (hF : ∀ w, (callFunc F caps).run Try.prog w = .ok (.enter F caps) w)
    (hf : ∀ w1, w1.heap.size = w.heap.size + 2 → Below w.heap.size w w1 → Calls Try.prog F caps w1 fun e w' => e = .returned (.int .i64 n) ∧ Below w1.heap.size w1 w') :
    Calls Try.prog 113 #[.func (.func F) #[] caps] w fun e w' => e = .returned (.tuple #[.int .i64 n, .int .i64 0]) ∧ Below w.heap.size w w' := by
  have hmf : ∀ (fn : Fn) (first cap : Array Value) (w : World), (Instr.makeFunc fn first cap).run Try.prog w = .ok (.func fn first cap) w := fun _ _ _ _ => rfl
  have hen := eql_func_nil
  have hb0 : Below w.heap.size w ((w.alloc (.cells #[.int .i64 0] 3)).alloc (.cells #[.int .i64 0] 30)) := ((Below.refl _ _).alloc (Nat.le_refl _) _).alloc (by simp) _
  have Hf := Lib.hid (hf _ (by simp) hb0)
  clear hf
  go_enter_defers Try.func113, Try.ntmps113
  go_wp2_with fail
  refine (Hf.out).mono ?_
  rintro e w1 ⟨rfl, hb1⟩
  obtain ⟨hc, hz, _⟩ := bcell hb1
  have HB := Lib.hid (hb0.trans (hb1.mono (by simp; omega)))
  clear hb1 hb0 Hf
  go_wp2
  refine leaves_cons (f := 116) (args := #[.pointer (some ⟨w.heap.size + 1, 0, none⟩), .pointer (some ⟨w.heap.size, 0, none⟩)]) (by simp) (by simp [go_sem]) ?_
  refine (caught_idle _ _ _).mono ?_
  rintro e u' w'' ⟨rfl, rfl, rfl⟩
  have h1 : w1.cell? ⟨w.heap.size, 0, none⟩ = some (.int .i64 0) := by simp [go_sem, hc]
  have h2 : (w1.setCell ⟨w.heap.size, 0, none⟩ (.int .i64 n)).cell? ⟨w.heap.size + 1, 0, none⟩ = some (.int .i64 0) := by
    rw [World.cell?_setCell_other _ _ _ _ (by simp)]; simp [go_sem, hc]
  have h3 : ((w1.setCell ⟨w.heap.size, 0, none⟩ (.int .i64 n)).setCell ⟨w.heap.size + 1, 0, none⟩ (.int .i64 0)).cell? ⟨w.heap.size, 0, none⟩ = some (.int .i64 n) := by
    rw [World.cell?_setCell_other _ _ _ _ (by simp)]; exact World.cell?_setCell_same' _ _ _ (by rw [h1]; rfl)
  have h4 : ((w1.setCell ⟨w.heap.size, 0, none⟩ (.int .i64 n)).setCell ⟨w.heap.size + 1, 0, none⟩ (.int .i64 0)).cell? ⟨w.heap.size + 1, 0, none⟩ = some (.int .i64 0) :=
    World.cell?_setCell_same' _ _ _ (by rw [h2]; rfl)
  simp [Leaves, settle, results, Try.results113, go_sem, h3, h4]
  exact (HB.out.setCell (p := ⟨w.heap.size, 0, none⟩) (Nat.le_refl _) _).setCell (p := ⟨w.heap.size + 1, 0, none⟩) (Nat.le_succ _) _
set_option maxHeartbeats 400000 in
theorem try_err (F : FuncId) (caps : Array Value) (er : Int) (w : World) (hF : ∀ w, (callFunc F caps).run Try.prog w = .ok (.enter F caps) w)
    (hf : ∀ w1, w1.heap.size = w.heap.size + 2 → Below w.heap.size w w1 → Calls Try.prog F caps w1 fun e w' => e = .panicked [{ v := .iface 30 (.int .i64 er), recovered := false }] ∧ Below w1.heap.size w1 w') :
    Calls Try.prog 113 #[.func (.func F) #[] caps] w fun e w' => e = .returned (.tuple #[.int .i64 0, .int .i64 er]) ∧ Below w.heap.size w w' := by
  have hmf : ∀ (fn : Fn) (first cap : Array Value) (w : World), (Instr.makeFunc fn first cap).run Try.prog w = .ok (.func fn first cap) w := fun _ _ _ _ => rfl
  have hen := eql_func_nil
  have hb0 : Below w.heap.size w ((w.alloc (.cells #[.int .i64 0] 3)).alloc (.cells #[.int .i64 0] 30)) := ((Below.refl _ _).alloc (Nat.le_refl _) _).alloc (by simp) _
  have Hf := Lib.hid (hf _ (by simp) hb0)
  clear hf
  go_enter_defers Try.func113, Try.ntmps113
  go_wp2_with fail
  refine (Hf.out).mono ?_
  rintro e w1 ⟨rfl, hb1⟩
  obtain ⟨hc, hz, _⟩ := bcell hb1
  have HB := Lib.hid (hb0.trans (hb1.mono (by simp; omega)))
  clear hb1 hb0 Hf
  go_wp2
  refine leaves_cons (f := 116) (args := #[.pointer (some ⟨w.heap.size + 1, 0, none⟩), .pointer (some ⟨w.heap.size, 0, none⟩)]) (by simp) (by simp [go_sem]) ?_
  refine (caught_err w.heap.size er 0 0 [] w1 (by simp [go_sem, hc]) (by simp [go_sem, hz]) (by simp [go_sem, hc]) (by simp [go_sem, hz])).mono ?_
  rintro e u' w'' ⟨rfl, rfl, rfl⟩
  have h1 : w1.cell? ⟨w.heap.size + 1, 0, none⟩ = some (.int .i64 0) := by simp [go_sem, hc]
  have h2 : (w1.setCell ⟨w.heap.size + 1, 0, none⟩ (.int .i64 er)).cell? ⟨w.heap.size, 0, none⟩ = some (.int .i64 0) := by
    rw [World.cell?_setCell_other _ _ _ _ (by simp)]; simp [go_sem, hc]
  have h3 : ((w1.setCell ⟨w.heap.size + 1, 0, none⟩ (.int .i64 er)).setCell ⟨w.heap.size, 0, none⟩ (.int .i64 0)).cell? ⟨w.heap.size + 1, 0, none⟩ = some (.int .i64 er) := by
    rw [World.cell?_setCell_other _ _ _ _ (by simp)]; exact World.cell?_setCell_same' _ _ _ (by rw [h1]; rfl)
  have h4 : ((w1.setCell ⟨w.heap.size + 1, 0, none⟩ (.int .i64 er)).setCell ⟨w.heap.size, 0, none⟩ (.int .i64 0)).cell? ⟨w.heap.size, 0, none⟩ = some (.int .i64 0) :=
    World.cell?_setCell_same' _ _ _ (by rw [h2]; rfl)
  simp [Leaves, settle, results, Try.results113, go_sem, h3, h4]
  exact (HB.out.setCell (p := ⟨w.heap.size + 1, 0, none⟩) (Nat.le_succ _) _).setCell (p := ⟨w.heap.size, 0, none⟩) (Nat.le_refl _) _
set_option maxHeartbeats 400000 in
theorem try_other (F : FuncId) (caps : Array Value) (s : ByteArray) (w : World) (hF : ∀ w, (callFunc F caps).run Try.prog w = .ok (.enter F caps) w)
    (hf : ∀ w1, w1.heap.size = w.heap.size + 2 → Below w.heap.size w w1 → Calls Try.prog F caps w1 fun e w' => e = .panicked [{ v := .iface 9 (.string s), recovered := false }] ∧ Below w1.heap.size w1 w') :
    Calls Try.prog 113 #[.func (.func F) #[] caps] w fun e w' => e = .panicked [{ v := .iface 9 (.string s), recovered := false }, { v := .iface 9 (.string s), recovered := true }] ∧ Below w.heap.size w w' := by
  have hmf : ∀ (fn : Fn) (first cap : Array Value) (w : World), (Instr.makeFunc fn first cap).run Try.prog w = .ok (.func fn first cap) w := fun _ _ _ _ => rfl
  have hen := eql_func_nil
  have hb0 : Below w.heap.size w ((w.alloc (.cells #[.int .i64 0] 3)).alloc (.cells #[.int .i64 0] 30)) := ((Below.refl _ _).alloc (Nat.le_refl _) _).alloc (by simp) _
  have Hf := Lib.hid (hf _ (by simp) hb0)
  clear hf
  go_enter_defers Try.func113, Try.ntmps113
  go_wp2_with fail
  refine (Hf.out).mono ?_
  rintro e w1 ⟨rfl, hb1⟩
  obtain ⟨hc, hz, _⟩ := bcell hb1
  have HB := Lib.hid (hb0.trans (hb1.mono (by simp; omega)))
  clear hb1 hb0 Hf
  go_wp2
  refine leaves_cons (f := 116) (args := #[.pointer (some ⟨w.heap.size + 1, 0, none⟩), .pointer (some ⟨w.heap.size, 0, none⟩)]) (by simp) (by simp [go_sem]) ?_
  refine (caught_other w.heap.size s 0 [] w1 (by simp [go_sem, hc]) (by simp [go_sem, hz])).mono ?_
  rintro e u' w'' ⟨rfl, rfl, rfl⟩
  simp [Leaves, raised]
  exact HB.out.setCell (Nat.le_succ _) _

end Go.Proofs.Ytpjichkigccfnaa
