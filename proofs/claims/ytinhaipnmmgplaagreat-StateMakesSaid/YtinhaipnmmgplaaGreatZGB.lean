/-
  Layer 1 (num) and its reference: what each function does, function by function.
-/
import Derived.Test.YtinhaipnmmgplaaGreatProg
import Derived.Test.YtinhaipnmmgplaaGreatZGA
import Derived.Recover
import Derived.Laws.AppendOwnNone
namespace Go.Proofs.YtinhaipnmmgplaaGreat
set_option maxRecDepth 20000
open Go.RowKit

/-- A number that may be. -/
def isB (n : Int) : Bool := decide (-1099511627776 ≤ n) && decide (n ≤ 1099511627776)
theorem isB_iff {n : Int} : isB n = true ↔ -1099511627776 ≤ n ∧ n ≤ 1099511627776 := by simp [isB]
theorem isB_not {n : Int} : isB n = false ↔ ¬ (-1099511627776 ≤ n ∧ n ≤ 1099511627776) := by rw [← isB_iff]; simp

set_option maxHeartbeats 400000 in
theorem is_any (n : Int) (w : World) : Calls Tryz.prog 43 #[.int .i64 n] w fun e w' => e = .returned (.bool (isB n)) ∧ w = w' := by
  by_cases h : -1099511627776 ≤ n
  all_goals
    go_enter Tryz.func43, Tryz.ntmps43
    go_wp2
    go_ret
    refine ⟨?_, rfl⟩
    simp [isB]
    try omega

/-- The number, if all may be, and the error. -/
def rn (ok : Bool) (n : Int) : Int := if ok then n else 0
def re (ok : Bool) : Int := if ok then 0 else 2
/-- What a row of three is checked for. -/
def all3 (n a b : Int) : Bool := isB a && isB b && isB n
set_option maxHeartbeats 1000000 in
theorem checked_any (n a b : Int) (g : Nat) (w : World) (hr : rowAt w g = some (#[.int .i64 a, .int .i64 b], 3)) :
    Calls Tryz.prog 100 #[.int .i64 n, .slice (some ⟨g, 0, none⟩) 2 2] w fun e w' =>
      e = .returned (.tuple #[.int .i64 (rn (all3 n a b) n), .int .i64 (re (all3 n a b))]) ∧ Below g w w' := by
  have hg := rowAt_lt hr
  have hown : w.ownsRow g 3 1 (.slice (some ⟨g, 0, none⟩) 2 2) 2 [.int .i64 a, .int .i64 b] :=
    ⟨rfl, .inr ⟨g, 2, _, rfl, Nat.le_refl _, rowAt_iff.1 hr, by omega, by decide, rfl, rfl⟩⟩
  obtain ⟨i0, hi, hz0, hz1, hz2⟩ := info_parts (show (Tryz.prog.info? 3).map (fun i => (i.zero, i.size, i.bytes)) = some (some (.int .i64 0), 1, 8) by kernel_rfl)
  go_enter Tryz.func100, Tryz.ntmps100
  go_wp2_with (at_builtin; refine wpList_append_own _ rfl _ _ 94 rfl g 3 i0 (.int .i64 0) 1 8 Tryz.underlying94 hi hz0 hz1 hz2 rfl (by decide) _ _ _ rfl (hown.alloc _) ⟨w.heap.size, 0, none⟩ 1 1 [.int .i64 n] rfl rfl ?c1 ?c2 ?c3 ?c4 ?c5 ?_)
  case c1 => exact cell_one_new _ _ _
  case c2 => simp [Value.oneCell']
  case c3 => decide
  case c4 => decide
  case c5 => simp; omega
  intro v' w1 hown1 hgrow hnn
  obtain ⟨hlen, h0 | ⟨g', cap, cur, rfl, hg', hcur, hnc, hcap, hcs, htk⟩⟩ := hown1
  · exact absurd h0.1 hnn
  clear hnn
  have hb : Below g w w1 := ((Below.refl g w).alloc (by omega) _).trans ⟨hgrow.os, hgrow.tape, hgrow.output, hgrow.size, fun k hk => hgrow.block k (by simp; omega) (by simp [Value.ownBlock]; omega)⟩
  have hcell : ∀ k : Nat, k < 3 → w1.cell? ⟨g', k, none⟩ = some (.int .i64 ([a, b, n].getD k 0)) := by
    intro k hk
    rw [cell_of_row w1 g' k cur _ _ hcur]
    have h1 : (cur.toList.take 3)[k]? = cur[k]? := by rw [List.getElem?_take, if_pos hk]; simp
    rw [← h1, htk]
    match k, hk with
    | 0, _ => rfl
    | 1, _ => rfl
    | 2, _ => rfl
  clear htk hcs hlen hgrow hown hcur
  go_wp2
  go_loop [13] (fun i => ∃ k : Nat, k ≤ 3 ∧ i = .int .i64 k ∧ ∀ j, j < k → isB ([a, b, n].getD j 0) = true) (fun i => 3 - (intOf i).toNat)
  case atStart => exact ⟨0, by omega, rfl, fun j hj => by omega⟩
  case round =>
    obtain ⟨k, hk, rfl, hall⟩ := hrel
    by_cases hlt : k < 3
    · have hc := hcell k hlt
      generalize hx : [a, b, n].getD k 0 = x at hc
      have Hx := Lib.hid hx
      have HB := Lib.hid hb
      clear hx hcell hb
      cases hbx : isB x with
      | true =>
        go_wp2_with (go_at_call 43; refine (is_any _ _).mono ?_; rintro e w' ⟨rfl, rfl⟩)
        go_round
        case rel =>
          refine ⟨k + 1, by omega, by go_num, fun j hj => ?_⟩
          by_cases hjk : j = k
          · rw [hjk, Hx.out]; exact hbx
          · exact hall j (by omega)
        case measure => simp [intOf]; omega
      | false =>
        go_wp2_with (go_at_call 43; refine (is_any _ _).mono ?_; rintro e w' ⟨rfl, rfl⟩)
        go_ret2
        have hf : all3 n a b = false := by
          have := Hx.out
          unfold all3
          match k, hlt, this with
          | 0, _, h => rw [show a = x from h, hbx]; rfl
          | 1, _, h => rw [show b = x from h, hbx]; simp
          | 2, _, h => rw [show n = x from h, hbx]; simp
        exact ⟨by rw [hf]; rfl, HB.out⟩
    · have HB := Lib.hid hb
      clear hcell hb
      go_wp2
      go_ret2
      have ht : all3 n a b = true := by
        unfold all3
        rw [show isB a = true from hall 0 (by omega), show isB b = true from hall 1 (by omega), show isB n = true from hall 2 (by omega)]
        rfl
      exact ⟨by rw [ht]; rfl, HB.out⟩

def addOk (a b : Int) : Bool := isB a && isB b && isB (a + b)
def subOk (a b : Int) : Bool := isB a && isB b && isB (a - b)
def mulOk (a b : Int) : Bool := isB a && isB b && isB (a * b)
theorem all3_add (a b : Int) : all3 (wrap64 (a + b)) a b = addOk a b := by
  unfold all3 addOk
  by_cases h : isB a = true ∧ isB b = true
  · rw [h.1, h.2]
    have h1 := isB_iff.1 h.1
    have h2 := isB_iff.1 h.2
    rw [show wrap64 (a + b) = a + b by unfold wrap64; omega]
  · cases ha : isB a <;> cases hb : isB b <;> simp_all
theorem all3_sub (a b : Int) : all3 (wrap64 (a - b)) a b = subOk a b := by
  unfold all3 subOk
  by_cases h : isB a = true ∧ isB b = true
  · rw [h.1, h.2]
    have h1 := isB_iff.1 h.1
    have h2 := isB_iff.1 h.2
    rw [show wrap64 (a - b) = a - b by unfold wrap64; omega]
  · cases ha : isB a <;> cases hb : isB b <;> simp_all
theorem rn_wrap_add (a b : Int) : rn (addOk a b) (wrap64 (a + b)) = rn (addOk a b) (a + b) := by
  unfold rn
  split
  · rename_i h
    simp only [addOk, Bool.and_eq_true] at h
    have h1 := isB_iff.1 h.1.1
    have h2 := isB_iff.1 h.1.2
    unfold wrap64; omega
  · rfl
theorem rn_wrap_sub (a b : Int) : rn (subOk a b) (wrap64 (a - b)) = rn (subOk a b) (a - b) := by
  unfold rn
  split
  · rename_i h
    simp only [subOk, Bool.and_eq_true] at h
    have h1 := isB_iff.1 h.1.1
    have h2 := isB_iff.1 h.1.2
    unfold wrap64; omega
  · rfl

set_option maxHeartbeats 400000 in
theorem add_any (a b : Int) (w : World) : Calls Tryz.prog 94 #[.int .i64 a, .int .i64 b] w fun e w' =>
    e = .returned (.tuple #[.int .i64 (rn (addOk a b) (a + b)), .int .i64 (re (addOk a b))]) ∧ Below w.heap.size w w' := by
  go_enter Tryz.func94, Tryz.ntmps94
  go_wp2_with (go_at_call 100; refine (checked_any (wrap64 (a + b)) a b w.heap.size _ (rowAt_alloc_at _ _ _ _ rfl)).mono ?_; rintro e w1 ⟨rfl, hb1⟩)
  go_ret2
  exact ⟨by rw [all3_add, rn_wrap_add]; rfl, ((Below.refl _ _).alloc (Nat.le_refl _) _).trans hb1⟩
set_option maxHeartbeats 400000 in
theorem must_ok (n : Int) (w : World) : Calls Tryz.prog 103 #[.int .i64 n, .int .i64 0] w fun e w' => e = .returned (.int .i64 n) ∧ w = w' := by
  go_enter Tryz.func103, Tryz.ntmps103
  go_wp2
  go_ret
  exact ⟨rfl, rfl⟩
set_option maxHeartbeats 400000 in
theorem must_err (n er : Int) (w : World) (h : er ≠ 0) : Calls Tryz.prog 103 #[.int .i64 n, .int .i64 er] w fun e w' => e = .panicked [{ v := .iface 31 (.int .i64 er), recovered := false }] ∧ w = w' := by
  have hne : (er != 0) = true := by simpa using h
  go_enter Tryz.func103, Tryz.ntmps103
  go_wp2
  exact ⟨rfl, rfl, rfl⟩

/-! Try. -/
theorem caught_idle (pe pn : Addr) (w : World) :
    CallsD Tryz.prog 104 #[.pointer (some pe), .pointer (some pn)] .returning w fun e u' w' => e = .returned (.tuple #[]) ∧ u' = .returning ∧ w' = w := by
  refine callsD_of_wpS Tryz.func104 rfl fun c₀ cs hu => ?_
  apply wpS_seq
  apply wpS_region
  simp [wpOpsS, go_sem, recoverD, hu, Tryz.ntmps104, Exit.thenS]
  refine wpS_of_wp ?_
  simp only [Array.replicate_succ, Array.replicate_zero, List.push_toArray, List.append_toArray, List.nil_append, List.cons_append, List.setIfInBounds_toArray, List.set_cons_succ, List.set_cons_zero]
  go_wp2
  cases c₀
  simp_all [bodyPostS, results, Tryz.results104]
theorem assert_errno (n : Int) (w : World) : (Instr.typeAssert (.iface 31 (.int .i64 n)) 20 31 true).run Tryz.prog w = .ok (.tuple #[.int .i64 n, .bool true]) w := by kernel_rfl
theorem assert_string (s : ByteArray) (w : World) : (Instr.typeAssert (.iface 9 (.string s)) 20 31 true).run Tryz.prog w = .ok (.tuple #[.int .i64 0, .bool false]) w := by kernel_rfl
theorem eql_nil_func (w : World) : (binOp .eql 104 .nilFunc .nilFunc).run Tryz.prog w = .ok (.bool true) w := by kernel_rfl
theorem eql_func_nil (f : Fn) (a b : Array Value) (w : World) : (binOp .eql 104 (.func f a b) .nilFunc).run Tryz.prog w = .ok (.bool false) w := by kernel_rfl
theorem caught_err (b : Nat) (er x y : Int) (older : List PanicEntry) (w : World) (h1 : w.cell? ⟨b + 1, 0, none⟩ = some (.int .i64 x)) (h2 : w.frozen? ⟨b + 1, 0, none⟩ = false) (h3 : w.cell? ⟨b, 0, none⟩ = some (.int .i64 y)) (h4 : w.frozen? ⟨b, 0, none⟩ = false) :
    CallsD Tryz.prog 104 #[.pointer (some ⟨b + 1, 0, none⟩), .pointer (some ⟨b, 0, none⟩)] (.panicking ({ v := .iface 31 (.int .i64 er), recovered := false } :: older)) w fun e u' w' =>
      e = .returned (.tuple #[]) ∧ u' = .panicking ({ v := .iface 31 (.int .i64 er), recovered := true } :: older) ∧ w' = (w.setCell ⟨b + 1, 0, none⟩ (.int .i64 er)).setCell ⟨b, 0, none⟩ (.int .i64 0) := by
  have hta := assert_errno
  refine callsD_of_wpS Tryz.func104 rfl fun c₀ cs hu => ?_
  apply wpS_seq
  apply wpS_region
  simp [wpOpsS, go_sem, recoverD, hu, Tryz.ntmps104, Exit.thenS]
  refine wpS_of_wp ?_
  simp only [Array.replicate_succ, Array.replicate_zero, List.push_toArray, List.append_toArray, List.nil_append, List.cons_append, List.setIfInBounds_toArray, List.set_cons_succ, List.set_cons_zero]
  go_wp2
  simp [bodyPostS, results, Tryz.results104]
theorem caught_other (b : Nat) (s : ByteArray) (x : Int) (older : List PanicEntry) (w : World) (h1 : w.cell? ⟨b + 1, 0, none⟩ = some (.int .i64 x)) (h2 : w.frozen? ⟨b + 1, 0, none⟩ = false) :
    CallsD Tryz.prog 104 #[.pointer (some ⟨b + 1, 0, none⟩), .pointer (some ⟨b, 0, none⟩)] (.panicking ({ v := .iface 9 (.string s), recovered := false } :: older)) w fun e u' w' =>
      e = .panicked [{ v := .iface 9 (.string s), recovered := false }] ∧ u' = .panicking ({ v := .iface 9 (.string s), recovered := true } :: older) ∧ w' = w.setCell ⟨b + 1, 0, none⟩ (.int .i64 0) := by
  have hta := assert_string
  refine callsD_of_wpS Tryz.func104 rfl fun c₀ cs hu => ?_
  apply wpS_seq
  apply wpS_region
  simp [wpOpsS, go_sem, recoverD, hu, Tryz.ntmps104, Exit.thenS]
  refine wpS_of_wp ?_
  simp only [Array.replicate_succ, Array.replicate_zero, List.push_toArray, List.append_toArray, List.nil_append, List.cons_append, List.setIfInBounds_toArray, List.set_cons_succ, List.set_cons_zero]
  go_wp2
  simp [bodyPostS]
set_option maxHeartbeats 400000 in
theorem try_nil (w : World) : Calls Tryz.prog 101 #[.nilFunc] w fun e w' => e = .returned (.tuple #[.int .i64 0, .int .i64 2]) ∧ Below w.heap.size w w' := by
  have hmf : ∀ (fn : Fn) (first cap : Array Value) (w : World), (Instr.makeFunc fn first cap).run Tryz.prog w = .ok (.func fn first cap) w := fun _ _ _ _ => rfl
  have hen := eql_nil_func
  go_enter_defers Tryz.func101, Tryz.ntmps101
  go_wp2
  simp [bodyPostD, Leaves, results, Tryz.results101, go_sem]
  exact ((Below.refl _ _).alloc (Nat.le_refl _) _).alloc (by simp) _
set_option maxHeartbeats 400000 in
theorem try_ret (F : FuncId) (caps : Array Value) (n : Int) (w : World) (hF : ∀ w, (callFunc F caps).run Tryz.prog w = .ok (.enter F caps) w)
    (hf : ∀ w1, w1.heap.size = w.heap.size + 2 → Below w.heap.size w w1 → Calls Tryz.prog F caps w1 fun e w' => e = .returned (.int .i64 n) ∧ Below w1.heap.size w1 w') :
    Calls Tryz.prog 101 #[.func (.func F) #[] caps] w fun e w' => e = .returned (.tuple #[.int .i64 n, .int .i64 0]) ∧ Below w.heap.size w w' := by
  have hmf : ∀ (fn : Fn) (first cap : Array Value) (w : World), (Instr.makeFunc fn first cap).run Tryz.prog w = .ok (.func fn first cap) w := fun _ _ _ _ => rfl
  have hen := eql_func_nil
  have hb0 : Below w.heap.size w ((w.alloc (.cells #[.int .i64 0] 3)).alloc (.cells #[.int .i64 0] 31)) := ((Below.refl _ _).alloc (Nat.le_refl _) _).alloc (by simp) _
  have Hf := Lib.hid (hf _ (by simp) hb0)
  clear hf
  go_enter_defers Tryz.func101, Tryz.ntmps101
  go_wp2_with fail
  refine (Hf.out).mono ?_
  rintro e w1 ⟨rfl, hb1⟩
  obtain ⟨hc, hz, _⟩ := bcell hb1
  have HB := Lib.hid (hb0.trans (hb1.mono (by simp; omega)))
  clear hb1 hb0 Hf
  go_wp2
  refine leaves_cons (f := 104) (args := #[.pointer (some ⟨w.heap.size + 1, 0, none⟩), .pointer (some ⟨w.heap.size, 0, none⟩)]) (by simp) (by simp [go_sem]) ?_
  refine (caught_idle _ _ _).mono ?_
  rintro e u' w'' ⟨rfl, rfl, rfl⟩
  have h1 : w1.cell? ⟨w.heap.size, 0, none⟩ = some (.int .i64 0) := by simp [go_sem, hc]
  have h2 : (w1.setCell ⟨w.heap.size, 0, none⟩ (.int .i64 n)).cell? ⟨w.heap.size + 1, 0, none⟩ = some (.int .i64 0) := by
    rw [World.cell?_setCell_other _ _ _ _ (by simp)]; simp [go_sem, hc]
  have h3 : ((w1.setCell ⟨w.heap.size, 0, none⟩ (.int .i64 n)).setCell ⟨w.heap.size + 1, 0, none⟩ (.int .i64 0)).cell? ⟨w.heap.size, 0, none⟩ = some (.int .i64 n) := by
    rw [World.cell?_setCell_other _ _ _ _ (by simp)]; exact World.cell?_setCell_same' _ _ _ (by rw [h1]; rfl)
  have h4 : ((w1.setCell ⟨w.heap.size, 0, none⟩ (.int .i64 n)).setCell ⟨w.heap.size + 1, 0, none⟩ (.int .i64 0)).cell? ⟨w.heap.size + 1, 0, none⟩ = some (.int .i64 0) :=
    World.cell?_setCell_same' _ _ _ (by rw [h2]; rfl)
  simp [Leaves, settle, results, Tryz.results101, go_sem, h3, h4]
  exact (HB.out.setCell (p := ⟨w.heap.size, 0, none⟩) (Nat.le_refl _) _).setCell (p := ⟨w.heap.size + 1, 0, none⟩) (Nat.le_succ _) _
set_option maxHeartbeats 400000 in
theorem try_err (F : FuncId) (caps : Array Value) (er : Int) (w : World) (hF : ∀ w, (callFunc F caps).run Tryz.prog w = .ok (.enter F caps) w)
    (hf : ∀ w1, w1.heap.size = w.heap.size + 2 → Below w.heap.size w w1 → Calls Tryz.prog F caps w1 fun e w' => e = .panicked [{ v := .iface 31 (.int .i64 er), recovered := false }] ∧ Below w1.heap.size w1 w') :
    Calls Tryz.prog 101 #[.func (.func F) #[] caps] w fun e w' => e = .returned (.tuple #[.int .i64 0, .int .i64 er]) ∧ Below w.heap.size w w' := by
  have hmf : ∀ (fn : Fn) (first cap : Array Value) (w : World), (Instr.makeFunc fn first cap).run Tryz.prog w = .ok (.func fn first cap) w := fun _ _ _ _ => rfl
  have hen := eql_func_nil
  have hb0 : Below w.heap.size w ((w.alloc (.cells #[.int .i64 0] 3)).alloc (.cells #[.int .i64 0] 31)) := ((Below.refl _ _).alloc (Nat.le_refl _) _).alloc (by simp) _
  have Hf := Lib.hid (hf _ (by simp) hb0)
  clear hf
  go_enter_defers Tryz.func101, Tryz.ntmps101
  go_wp2_with fail
  refine (Hf.out).mono ?_
  rintro e w1 ⟨rfl, hb1⟩
  obtain ⟨hc, hz, _⟩ := bcell hb1
  have HB := Lib.hid (hb0.trans (hb1.mono (by simp; omega)))
  clear hb1 hb0 Hf
  go_wp2
  refine leaves_cons (f := 104) (args := #[.pointer (some ⟨w.heap.size + 1, 0, none⟩), .pointer (some ⟨w.heap.size, 0, none⟩)]) (by simp) (by simp [go_sem]) ?_
  refine (caught_err w.heap.size er 0 0 [] w1 (by simp [go_sem, hc]) (by simp [go_sem, hz]) (by simp [go_sem, hc]) (by simp [go_sem, hz])).mono ?_
  rintro e u' w'' ⟨rfl, rfl, rfl⟩
  have h1 : w1.cell? ⟨w.heap.size + 1, 0, none⟩ = some (.int .i64 0) := by simp [go_sem, hc]
  have h2 : (w1.setCell ⟨w.heap.size + 1, 0, none⟩ (.int .i64 er)).cell? ⟨w.heap.size, 0, none⟩ = some (.int .i64 0) := by
    rw [World.cell?_setCell_other _ _ _ _ (by simp)]; simp [go_sem, hc]
  have h3 : ((w1.setCell ⟨w.heap.size + 1, 0, none⟩ (.int .i64 er)).setCell ⟨w.heap.size, 0, none⟩ (.int .i64 0)).cell? ⟨w.heap.size + 1, 0, none⟩ = some (.int .i64 er) := by
    rw [World.cell?_setCell_other _ _ _ _ (by simp)]; exact World.cell?_setCell_same' _ _ _ (by rw [h1]; rfl)
  have h4 : ((w1.setCell ⟨w.heap.size + 1, 0, none⟩ (.int .i64 er)).setCell ⟨w.heap.size, 0, none⟩ (.int .i64 0)).cell? ⟨w.heap.size, 0, none⟩ = some (.int .i64 0) :=
    World.cell?_setCell_same' _ _ _ (by rw [h2]; rfl)
  simp [Leaves, settle, results, Tryz.results101, go_sem, h3, h4]
  exact (HB.out.setCell (p := ⟨w.heap.size + 1, 0, none⟩) (Nat.le_succ _) _).setCell (p := ⟨w.heap.size, 0, none⟩) (Nat.le_refl _) _
set_option maxHeartbeats 400000 in
theorem try_other (F : FuncId) (caps : Array Value) (s : ByteArray) (w : World) (hF : ∀ w, (callFunc F caps).run Tryz.prog w = .ok (.enter F caps) w)
    (hf : ∀ w1, w1.heap.size = w.heap.size + 2 → Below w.heap.size w w1 → Calls Tryz.prog F caps w1 fun e w' => e = .panicked [{ v := .iface 9 (.string s), recovered := false }] ∧ Below w1.heap.size w1 w') :
    Calls Tryz.prog 101 #[.func (.func F) #[] caps] w fun e w' => e = .panicked [{ v := .iface 9 (.string s), recovered := false }, { v := .iface 9 (.string s), recovered := true }] ∧ Below w.heap.size w w' := by
  have hmf : ∀ (fn : Fn) (first cap : Array Value) (w : World), (Instr.makeFunc fn first cap).run Tryz.prog w = .ok (.func fn first cap) w := fun _ _ _ _ => rfl
  have hen := eql_func_nil
  have hb0 : Below w.heap.size w ((w.alloc (.cells #[.int .i64 0] 3)).alloc (.cells #[.int .i64 0] 31)) := ((Below.refl _ _).alloc (Nat.le_refl _) _).alloc (by simp) _
  have Hf := Lib.hid (hf _ (by simp) hb0)
  clear hf
  go_enter_defers Tryz.func101, Tryz.ntmps101
  go_wp2_with fail
  refine (Hf.out).mono ?_
  rintro e w1 ⟨rfl, hb1⟩
  obtain ⟨hc, hz, _⟩ := bcell hb1
  have HB := Lib.hid (hb0.trans (hb1.mono (by simp; omega)))
  clear hb1 hb0 Hf
  go_wp2
  refine leaves_cons (f := 104) (args := #[.pointer (some ⟨w.heap.size + 1, 0, none⟩), .pointer (some ⟨w.heap.size, 0, none⟩)]) (by simp) (by simp [go_sem]) ?_
  refine (caught_other w.heap.size s 0 [] w1 (by simp [go_sem, hc]) (by simp [go_sem, hz])).mono ?_
  rintro e u' w'' ⟨rfl, rfl, rfl⟩
  simp [Leaves, raised]
  exact HB.out.setCell (Nat.le_succ _) _

end Go.Proofs.YtinhaipnmmgplaaGreat

/-
  Layer 1 (num): sums, products; the reference.
-/
namespace Go.Proofs.YtinhaipnmmgplaaGreat
set_option maxRecDepth 20000
open Go.RowKit

/-! Sum. -/
/-- The sum of l behind n, as long as all may be. -/
def sumFrom : Int → List Int → Option Int
  | n, [] => some n
  | n, x :: l => if addOk n x then sumFrom (n + x) l else none
def sumN (l : List Int) : Int := (sumFrom 0 l).getD 0
def sumE (l : List Int) : Int := if (sumFrom 0 l).isSome then 0 else 2
theorem sumFrom_snoc (n : Int) (l : List Int) (x : Int) : sumFrom n (l ++ [x]) = (sumFrom n l).bind fun m => if addOk m x then some (m + x) else none := by
  induction l generalizing n with
  | nil => simp [sumFrom]
  | cons y l ih => simp only [List.cons_append, sumFrom]; split <;> simp_all
theorem sumFrom_none {n : Int} {l r : List Int} (h : sumFrom n l = none) : sumFrom n (l ++ r) = none := by
  induction l generalizing n with
  | nil => simp [sumFrom] at h
  | cons y l ih =>
    simp only [List.cons_append, sumFrom] at h ⊢
    split at h
    · rename_i hy; rw [if_pos hy]; exact ih h
    · rename_i hy; rw [if_neg hy]

/-- Where a slice of ints leads: its elements. -/
def IsInts (w : World) (a : Option Addr) (l : List Int) : Prop := ∀ i, i < l.length → ∃ b o, a = some ⟨b, o, none⟩ ∧ w.cell? ⟨b, o + i, none⟩ = some (.int .i64 (l.getD i 0))
theorem IsInts.below {w w' : World} {a : Option Addr} {l : List Int} (h : IsInts w a l) (hb : Below w.heap.size w w') : IsInts w' a l := by
  intro i hi
  obtain ⟨b, o, hx, hc⟩ := h i hi
  exact ⟨b, o, hx, (hb.cell (World.block_lt_of_cell? _ _ hc)).trans hc⟩
theorem isInts_row {w : World} {g o : Nat} {c : Array Value} {t : TypeId} {l : List Int} (hr : rowAt w g = some (c, t)) (h : ∀ i, i < l.length → c[o + i]? = some (.int .i64 (l.getD i 0))) : IsInts w (some ⟨g, o, none⟩) l :=
  fun i hi => ⟨g, o, rfl, by rw [cell_of_rowAt hr, h i hi]⟩
theorem rn_true (n : Int) : rn true n = n := rfl
theorem rn_false (n : Int) : rn false n = 0 := rfl
theorem re_true : re true = 0 := rfl
theorem re_false : re false = 2 := rfl
section
attribute [local go_sem] rn_true rn_false re_true re_false
set_option maxHeartbeats 1000000 in
theorem sumfn_any (p : Nat) (a : Option Addr) (cap : Nat) (l : List Int) (w : World) (hp : rowAt w p = some (#[.slice a l.length cap], 94)) (hl : IsInts w a l) (hlen : l.length ≤ 4611686018427387904) :
    Calls Tryz.prog 102 #[.pointer (some ⟨p, 0, none⟩)] w fun e w' =>
      (∀ n, sumFrom 0 l = some n → e = .returned (.int .i64 n)) ∧ (sumFrom 0 l = none → e = .panicked [{ v := .iface 31 (.int .i64 2), recovered := false }]) ∧ Below w.heap.size w w' := by
  have hpc : w.cell? ⟨p, 0, none⟩ = some (.slice a l.length cap) := by rw [cell_of_rowAt hp]; rfl
  go_enter Tryz.func102, Tryz.ntmps102
  go_wp2_with fail
  go_loopw [2, 7] (fun n i w' => ∃ (k : Nat) (m : Int), k ≤ l.length ∧ i = .int .i64 k ∧ n = .int .i64 m ∧ sumFrom 0 (l.take k) = some m ∧ Below w.heap.size w w') (fun _ i _ => l.length - (intOf i).toNat)
  case atStart => exact ⟨0, 0, Nat.zero_le _, rfl, rfl, rfl, Below.refl _ _⟩
  case round =>
    rename_i wr
    obtain ⟨k, m, hk, rfl, rfl, hs, hb⟩ := hrel
    by_cases hlt : k < l.length
    · obtain ⟨b, off, rfl, hc⟩ := hl k hlt
      have hc' : wr.cell? ⟨b, off + k, none⟩ = some (.int .i64 (l.getD k 0)) := (hb.cell (World.block_lt_of_cell? _ _ hc)).trans hc
      generalize hx : l.getD k 0 = x at hc'
      have Hs := Lib.hid (show sumFrom 0 (l.take (k + 1)) = if addOk m x then some (m + x) else none by
        rw [List.take_succ_eq_append_getElem hlt, sumFrom_snoc, hs]
        simp [← hx, List.getD, List.getElem?_eq_getElem hlt])
      have HB := Lib.hid hb
      have hmb : (k : Int) + 1 ≤ 4611686018427387904 := by omega
      have hsz := hb.size
      clear hs hb hc hl hx hp hpc
      cases hok : addOk m x with
      | true =>
        go_wp2_with (first | (go_at_call 94; refine (add_any _ _ _).mono ?_; rintro e w1 ⟨rfl, hb1⟩; have HB1 := Lib.hid hb1; clear hb1) | (go_at_call 103; refine (must_ok _ _).mono ?_; rintro e w2 ⟨rfl, rfl⟩))
        refine ⟨⟨k + 1, m + x, by omega, by go_num, rfl, by rw [Hs.out, hok]; rfl, HB.out.trans (HB1.out.mono hsz)⟩, by simp [intOf]; omega⟩
      | false =>
        go_wp2_with (first | (go_at_call 94; refine (add_any _ _ _).mono ?_; rintro e w1 ⟨rfl, hb1⟩; have HB1 := Lib.hid hb1; clear hb1) | (go_at_call 103; refine (must_err _ _ _ (by decide)).mono ?_; rintro e w2 ⟨rfl, rfl⟩))
        have hn : sumFrom 0 l = none := by
          have h1 := Hs.out
          rw [hok] at h1
          have h2 := sumFrom_none (r := l.drop (k + 1)) h1
          rwa [List.take_append_drop] at h2
        exact ⟨rfl, (fun n h => by rw [hn] at h; cases h), (fun _ => rfl), HB.out.trans (HB1.out.mono hsz)⟩
    · obtain rfl : k = l.length := by omega
      rw [List.take_length] at hs
      have Hs := Lib.hid hs
      have HB := Lib.hid hb
      clear hs hb hl hp hpc
      go_wp2
      go_ret
      exact ⟨(fun n h => by rw [Hs.out] at h; injection h with h; rw [← h]; rfl), (fun h => by rw [Hs.out] at h; cases h), HB.out⟩
set_option maxHeartbeats 400000 in
theorem sum_any (a : Option Addr) (cap : Nat) (l : List Int) (w : World) (hl : IsInts w a l) (hlen : l.length ≤ 4611686018427387904) :
    Calls Tryz.prog 99 #[.slice a l.length cap] w fun e w' => e = .returned (.tuple #[.int .i64 (sumN l), .int .i64 (sumE l)]) ∧ Below w.heap.size w w' := by
  have hmf : ∀ (fn : Fn) (first cap : Array Value) (w : World), (Instr.makeFunc fn first cap).run Tryz.prog w = .ok (.func fn first cap) w := fun _ _ _ _ => rfl
  have hF : ∀ w, (callFunc 102 #[.pointer (some ⟨w.heap.size, 0, none⟩)]).run Tryz.prog w = .ok (.enter 102 #[.pointer (some ⟨w.heap.size, 0, none⟩)]) w := fun w => by simp [go_sem]
  have hb0 : Below w.heap.size w (w.alloc (.cells #[.slice a l.length cap] 94)) := (Below.refl _ _).alloc (Nat.le_refl _) _
  have key : ∀ w1, (w.alloc (.cells #[.slice a l.length cap] 94)).heap.size ≤ w1.heap.size → Below (w.alloc (.cells #[.slice a l.length cap] 94)).heap.size (w.alloc (.cells #[.slice a l.length cap] 94)) w1 →
      Calls Tryz.prog 102 #[.pointer (some ⟨w.heap.size, 0, none⟩)] w1 fun e w' =>
      (∀ n, sumFrom 0 l = some n → e = .returned (.int .i64 n)) ∧ (sumFrom 0 l = none → e = .panicked [{ v := .iface 31 (.int .i64 2), recovered := false }]) ∧ Below w1.heap.size w1 w' := fun w1 _ hb =>
    sumfn_any w.heap.size a cap l w1 ((rowAt_below hb _ (by simp)).trans (rowAt_alloc_at _ _ _ _ rfl)) ((hl.below hb0).below hb) hlen
  have hfin : Calls Tryz.prog 101 #[.func (.func 102) #[] #[.pointer (some ⟨w.heap.size, 0, none⟩)]] (w.alloc (.cells #[.slice a l.length cap] 94)) fun e w' =>
      e = .returned (.tuple #[.int .i64 (sumN l), .int .i64 (sumE l)]) ∧ Below (w.alloc (.cells #[.slice a l.length cap] 94)).heap.size (w.alloc (.cells #[.slice a l.length cap] 94)) w' := by
    cases hs : sumFrom 0 l with
    | some n =>
      have e1 : sumN l = n := by simp [sumN, hs]
      have e2 : sumE l = 0 := by simp [sumE, hs]
      rw [e1, e2]
      exact try_ret _ _ n _ (fun w => by simp [go_sem]) fun w1 h1 h2 => (key w1 (by omega) h2).mono fun e w' h => ⟨h.1 n hs, h.2.2⟩
    | none =>
      have e1 : sumN l = 0 := by simp [sumN, hs]
      have e2 : sumE l = 2 := by simp [sumE, hs]
      rw [e1, e2]
      exact try_err _ _ 2 _ (fun w => by simp [go_sem]) fun w1 h1 h2 => (key w1 (by omega) h2).mono fun e w' h => ⟨h.2.1 hs, h.2.2⟩
  have Hfin := Lib.hid hfin
  have H0 := Lib.hid hb0
  clear hF key hfin hb0 hl
  go_enter Tryz.func99, Tryz.ntmps99
  go_wp2_with fail
  refine (Hfin.out).mono ?_
  rintro e w1 ⟨rfl, hb1⟩
  have HB := Lib.hid (H0.out.trans (hb1.mono (by simp)))
  clear hb1 H0 Hfin
  go_wp2
  go_ret2
  exact ⟨rfl, HB.out⟩
end

/-! The reference. -/
set_option maxHeartbeats 400000 in
theorem ris_any (n : Int) (w : World) : Calls Tryz.prog 36 #[.int .i64 n] w fun e w' => e = .returned (.bool (isB n)) ∧ w = w' := by
  by_cases h : n ≤ 1099511627776
  all_goals
    go_enter Tryz.func36, Tryz.ntmps36
    go_wp2
    go_ret
    refine ⟨?_, rfl⟩
    simp [isB]
    try omega
attribute [local go_sem] rn_true rn_false re_true re_false
theorem addOk_wrap {a b : Int} (ha : isB a = true) (hb : isB b = true) : isB (wrap64 (a + b)) = isB (a + b) := by
  have h1 := isB_iff.1 ha
  have h2 := isB_iff.1 hb
  rw [show wrap64 (a + b) = a + b by unfold wrap64; omega]
theorem subOk_wrap {a b : Int} (ha : isB a = true) (hb : isB b = true) : isB (wrap64 (a - b)) = isB (a - b) := by
  have h1 := isB_iff.1 ha
  have h2 := isB_iff.1 hb
  rw [show wrap64 (a - b) = a - b by unfold wrap64; omega]
set_option maxHeartbeats 1000000 in
theorem radd_any (a b : Int) (w : World) : Calls Tryz.prog 60 #[.int .i64 a, .int .i64 b] w fun e w' =>
    e = .returned (.tuple #[.int .i64 (rn (addOk a b) (a + b)), .int .i64 (re (addOk a b))]) ∧ w = w' := by
  cases ha : isB a
  · go_enter Tryz.func60, Tryz.ntmps60
    go_wp2_with (go_at_call 36; refine (ris_any _ _).mono ?_; rintro e w1 ⟨rfl, rfl⟩)
    go_ret2
    exact ⟨by simp [addOk, ha, rn, re], rfl⟩
  · cases hb : isB b
    · go_enter Tryz.func60, Tryz.ntmps60
      go_wp2_with (go_at_call 36; refine (ris_any _ _).mono ?_; rintro e w1 ⟨rfl, rfl⟩)
      go_ret2
      exact ⟨by simp [addOk, hb, rn, re], rfl⟩
    · have Hw := Lib.hid (addOk_wrap ha hb)
      have h1 := isB_iff.1 ha
      have h2 := isB_iff.1 hb
      obtain ⟨h1, h3⟩ := h1
      obtain ⟨h2, h4⟩ := h2
      cases hc : isB (a + b)
      all_goals
        go_enter Tryz.func60, Tryz.ntmps60
        go_wp2_with (go_at_call 36; refine (ris_any _ _).mono ?_; rintro e w1 ⟨rfl, rfl⟩)
        go_ret2
        exact ⟨by simp [addOk, ha, hb, hc, rn, re], rfl⟩
set_option maxHeartbeats 1000000 in
theorem rsum_any (a : Option Addr) (cap : Nat) (l : List Int) (w : World) (hl : IsInts w a l) (hlen : l.length ≤ 4611686018427387904) :
    Calls Tryz.prog 81 #[.slice a l.length cap] w fun e w' => e = .returned (.tuple #[.int .i64 (sumN l), .int .i64 (sumE l)]) ∧ w = w' := by
  go_enter Tryz.func81, Tryz.ntmps81
  go_wp2_with fail
  go_loop [4, 5] (fun n i => ∃ (k : Nat) (m : Int), k ≤ l.length ∧ i = .int .i64 k ∧ n = .int .i64 m ∧ sumFrom 0 (l.take k) = some m) (fun _ i => l.length - (intOf i).toNat)
  case atStart => exact ⟨0, 0, Nat.zero_le _, rfl, rfl, rfl⟩
  case round =>
    obtain ⟨k, m, hk, rfl, rfl, hs⟩ := hrel
    by_cases hlt : k < l.length
    · obtain ⟨b, off, rfl, hc'⟩ := hl k hlt
      generalize hx : l.getD k 0 = x at hc'
      have Hs := Lib.hid (show sumFrom 0 (l.take (k + 1)) = if addOk m x then some (m + x) else none by
        rw [List.take_succ_eq_append_getElem hlt, sumFrom_snoc, hs]
        simp [← hx, List.getD, List.getElem?_eq_getElem hlt])
      have hmb : (k : Int) + 1 ≤ 4611686018427387904 := by omega
      clear hs hl hx
      cases hok : addOk m x with
      | true =>
        go_wp2_with (go_at_call 60; refine (radd_any _ _ _).mono ?_; rintro e w1 ⟨rfl, rfl⟩)
        go_round
        case rel => exact ⟨k + 1, m + x, by omega, by go_num, rfl, by rw [Hs.out, hok]; rfl⟩
        case measure => simp [intOf]; omega
      | false =>
        go_wp2_with (go_at_call 60; refine (radd_any _ _ _).mono ?_; rintro e w1 ⟨rfl, rfl⟩)
        go_ret2
        have hn : sumFrom 0 l = none := by
          have h1 := Hs.out
          rw [hok] at h1
          have h2 := sumFrom_none (r := l.drop (k + 1)) h1
          rwa [List.take_append_drop] at h2
        exact ⟨by simp [sumN, sumE, hn], rfl⟩
    · obtain rfl : k = l.length := by omega
      rw [List.take_length] at hs
      have Hs := Lib.hid hs
      clear hs hl
      go_wp2
      go_ret2
      exact ⟨by simp [sumN, sumE, Hs.out], rfl⟩

/-! Slices of ints that a call makes itself. -/
/-- v owns the ints xs, in a block from base on. -/
def OwnI (w : World) (base : Nat) (v : Value) (xs : List Int) : Prop := w.ownsRow base 3 1 v xs.length (xs.map (Value.int .i64))
theorem OwnI.isInts {w : World} {base : Nat} {v : Value} {xs : List Int} (h : OwnI w base v xs) : ∃ a cap, v = .slice a xs.length cap ∧ IsInts w a xs ∧ (a = none → cap = 0) := by
  rcases h.2 with ⟨hv, hn⟩ | ⟨g, cap, cur, hv, hbg, hg, hnc, hcm, hcs, htk⟩
  · have : xs = [] := List.eq_nil_of_length_eq_zero hn
    subst this
    exact ⟨none, 0, hv, fun i hi => absurd hi (by simp), fun _ => rfl⟩
  · refine ⟨some ⟨g, 0, none⟩, cap, hv, fun i hi => ⟨g, 0, rfl, ?_⟩, fun h => by cases h⟩
    have h1 : (cur.toList.take (xs.length * 1))[i]? = cur[i]? := by rw [List.getElem?_take, if_pos (by omega)]; simp
    rw [Nat.zero_add, cell_of_row w g i cur _ _ hg, ← h1, htk]
    simp [List.getD, List.getElem?_eq_getElem hi]
theorem OwnI.nil (w : World) (base : Nat) : OwnI w base (.slice none 0 0) [] := World.ownsRow_nil w base _ _
theorem OwnI.mono {w : World} {base base' : Nat} {v : Value} {xs : List Int} (h : OwnI w base v xs) (hb : base' ≤ base) : OwnI w base' v xs := by
  refine ⟨h.1, h.2.imp id ?_⟩
  rintro ⟨g, cap, cur, h1, h2, h3⟩
  exact ⟨g, cap, cur, h1, by omega, h3⟩
theorem OwnI.below {w w' : World} {base : Nat} {v : Value} {xs : List Int} (h : OwnI w base v xs) (hb : Below w.heap.size w w') : OwnI w' base v xs := by
  refine ⟨h.1, h.2.imp id ?_⟩
  rintro ⟨g, cap, cur, h1, h2, h3, h4⟩
  exact ⟨g, cap, cur, h1, h2, (hb.block g (Array.getElem?_eq_some_iff.1 h3).1).trans h3, h4⟩
/-- A block that was just laid. -/
theorem OwnI.row {w : World} {g : Nat} {xs : List Int} (hr : rowAt w g = some ((xs.map (Value.int .i64)).toArray, 3)) (hl : xs.length ≤ 9223372036854775807) : OwnI w g (.slice (some ⟨g, 0, none⟩) xs.length xs.length) xs :=
  ⟨by simp, .inr ⟨g, xs.length, _, rfl, Nat.le_refl _, rowAt_iff.1 hr, Nat.le_refl _, by unfold maxLen; omega, by simp, by simp [List.take_of_length_le]⟩⟩
theorem info_int : ∃ i, Tryz.prog.info? 3 = some i ∧ i.zero = some (.int .i64 0) ∧ i.size = 1 ∧ i.bytes = 8 :=
  info_parts (show (Tryz.prog.info? 3).map (fun i => (i.zero, i.size, i.bytes)) = some (some (.int .i64 0), 1, 8) by kernel_rfl)
/-- append of ints to a slice of the call's own. -/
theorem wl_append_ints {ops : Array Oper} {rest : List Oper} {o : Oper} {a : Act} {w : World} {Q : Exit → Act → World → Prop} (hgd : o.guard = none) (s x : Operand)
    (ho : o.op = .call { callee := .builtin .append, args := #[s, x], argTypes := #[94, 94] }) (base : Nat) (v : Value) (xs ys : List Int) (A : Option Addr) (c : Nat)
    (hs : a.eval s = v) (hown : OwnI w base v xs) (hx : a.eval x = .slice A ys.length c) (hy : IsInts w A ys) (hA : A = none → c = 0) (hlen : xs.length + ys.length ≤ 17592186044416) (hbase : base ≤ w.heap.size)
    (h : ∀ v' w', OwnI w' base v' (xs ++ ys) → w.grownBy w' v.ownBlock → wpList Tryz.prog ops Q rest (a.put o.dst v') w') : wpList Tryz.prog ops Q (o :: rest) a w := by
  obtain ⟨i0, hi, hz0, hz1, hz2⟩ := info_int
  cases A with
  | none =>
    have : ys = [] := by
      cases ys with
      | nil => rfl
      | cons y ys => obtain ⟨b, o, h1, _⟩ := hy 0 (by simp); cases h1
    subst this
    rw [hA rfl] at hx
    refine wpList_append_own_none hgd s x _ ho base 3 i0 1 Tryz.underlying94 hi v _ _ hs hown hx (h _ _ (by rw [List.append_nil]; exact hown) ⟨rfl, rfl, rfl, Nat.le_refl _, fun _ _ _ => rfl⟩)
  | some ad =>
    refine wpList_append_own _ hgd s x _ ho base 3 i0 (.int .i64 0) 1 8 Tryz.underlying94 hi hz0 hz1 hz2 rfl (by decide) v _ _ hs hown ad ys.length c (ys.map (Value.int .i64)) hx (by simp) ?_ ?_ (by unfold maxLen; omega) (by omega) hbase ?_
    · intro j u hu
      have hj : j < ys.length := by
        have := (List.getElem?_eq_some_iff.1 hu).1
        simpa using this
      obtain ⟨b, off, h1, h2⟩ := hy j hj
      injection h1 with h1
      subst h1
      rw [Addr.add_lit, h2]
      simp [List.getElem?_eq_getElem hj] at hu
      simp [List.getD, List.getElem?_eq_getElem hj, hu]
    · intro u hu
      obtain ⟨n, _, rfl⟩ := List.mem_map.1 hu
      rfl
    · intro v' w' h1 h2 _
      exact h v' w' (by unfold OwnI; rw [List.length_append, List.map_append]; exact h1) h2

theorem sum_nn (l : List Int) (hl : ∀ x ∈ l, 0 ≤ x) : 0 ≤ l.sum := by
  induction l with
  | nil => simp
  | cons x l ih =>
    have h1 := hl x (by simp)
    have h2 := ih (fun y hy => hl y (List.mem_cons_of_mem _ hy))
    rw [List.sum_cons]; omega
/-- Sums of numbers that are not below 0. -/
theorem sumFrom_pos (l : List Int) (hl : ∀ x ∈ l, 0 ≤ x) : ∀ n, 0 ≤ n → n ≤ 1099511627776 → sumFrom n l = if n + l.sum ≤ 1099511627776 then some (n + l.sum) else none := by
  induction l with
  | nil => intro n h0 h1; simp [sumFrom, h1]
  | cons x l ih =>
    intro n h0 h1
    have hx := hl x (by simp)
    have hs : 0 ≤ l.sum := sum_nn l (fun y hy => hl y (List.mem_cons_of_mem _ hy))
    rw [show (x :: l).sum = x + l.sum from List.sum_cons]
    simp only [sumFrom]
    by_cases hok : x ≤ 1099511627776 ∧ n + x ≤ 1099511627776
    · have : addOk n x = true := by
        unfold addOk
        rw [isB_iff.2 (show _ ∧ _ by omega), isB_iff.2 (show -1099511627776 ≤ x ∧ x ≤ 1099511627776 by omega), isB_iff.2 (show -1099511627776 ≤ n + x ∧ n + x ≤ 1099511627776 by omega)]; rfl
      rw [if_pos this, ih (fun y hy => hl y (List.mem_cons_of_mem _ hy)) (n + x) (by omega) (by omega), Int.add_assoc]
    · have : addOk n x = false := by
        cases h : addOk n x with
        | false => rfl
        | true =>
          simp only [addOk, Bool.and_eq_true] at h
          have h2 := isB_iff.1 h.1.2
          have h3 := isB_iff.1 h.2
          omega
      rw [if_neg (by rw [this]; decide), if_neg (by omega)]
theorem sumN_pos {l : List Int} (hl : ∀ x ∈ l, 0 ≤ x) : sumN l = if l.sum ≤ 1099511627776 then l.sum else 0 := by
  unfold sumN
  rw [sumFrom_pos l hl 0 (by omega) (by omega), Int.zero_add]
  split <;> rfl
theorem sumE_pos {l : List Int} (hl : ∀ x ∈ l, 0 ≤ x) : sumE l = if l.sum ≤ 1099511627776 then 0 else 2 := by
  unfold sumE
  rw [sumFrom_pos l hl 0 (by omega) (by omega), Int.zero_add]
  by_cases h : l.sum ≤ 1099511627776 <;> simp [h]

/-! Slices of a slice of ints. -/
theorem IsInts.take {w : World} {A : Option Addr} {l : List Int} (h : IsInts w A l) (k : Nat) : IsInts w A (l.take k) := by
  intro i hi
  have hl : i < l.length ∧ i < k := by simp at hi; omega
  obtain ⟨b, o, h1, h2⟩ := h i hl.1
  exact ⟨b, o, h1, by rw [h2]; simp [List.getD, hl.2]⟩
theorem IsInts.drop {w : World} {A A' : Option Addr} {l : List Int} (h : IsInts w A l) (k : Nat) (hA : k < l.length → A' = A.map (·.add k)) : IsInts w A' (l.drop k) := by
  intro i hi
  have hl : k + i < l.length := by simp at hi; omega
  obtain ⟨b, o, h1, h2⟩ := h (k + i) hl
  refine ⟨b, o + k, ?_, ?_⟩
  · rw [hA (by omega), h1]; simp [Addr.add_lit]
  · rw [Nat.add_assoc, h2]; simp [List.getD]
theorem wl_slice_to {ops : Array Oper} {rest : List Oper} {o : Oper} {a : Act} {w : World} {Q : Exit → Act → World → Prop} (hgd : o.guard = none) (x y : Operand)
    (ho : o.op = .slice 94 x none (some y) none) (A : Option Addr) (n c k : Nat) (hx : a.eval x = .slice A n c) (hy : a.eval y = .int .i64 k) (hk : k ≤ c)
    (h : wpList Tryz.prog ops Q rest (a.put o.dst (.slice A k c)) w) : wpList Tryz.prog ops Q (o :: rest) a w := by
  refine wpList_plain hgd fun K hK => ?_
  obtain ⟨i0, hi, _, _, _⟩ := info_int
  unfold Oper.wp execOp
  have e : (A.map fun x => x.add 0) = A := by cases A <;> simp [Addr.add]
  simp [ho, hx, hy, Instr.sliceAt, Instr.slice, Sem.run_bind, run_underlying Tryz.underlying94, Instr.sliceBounds, Instr.sliceBound, asIntOf, hk, sizeOf, typeInfo, hi, e]
  exact hK _ _ h
theorem wl_slice_from {ops : Array Oper} {rest : List Oper} {o : Oper} {a : Act} {w : World} {Q : Exit → Act → World → Prop} (hgd : o.guard = none) (x y : Operand)
    (ho : o.op = .slice 94 x (some y) none none) (A : Option Addr) (n c k : Nat) (hx : a.eval x = .slice A n c) (hy : a.eval y = .int .i64 k) (hk : k ≤ n)
    (h : ∀ A', (k < c → A' = A.map (·.add k)) → wpList Tryz.prog ops Q rest (a.put o.dst (.slice A' (n - k) (c - k))) w) : wpList Tryz.prog ops Q (o :: rest) a w := by
  refine wpList_plain hgd fun K hK => ?_
  obtain ⟨i0, hi, _, hz1, _⟩ := info_int
  unfold Oper.wp execOp
  simp [ho, hx, hy, Instr.sliceAt, Instr.slice, Sem.run_bind, run_underlying Tryz.underlying94, Instr.sliceBounds, Instr.sliceBound, asIntOf, hk, sizeOf, typeInfo, hi, hz1]
  exact hK _ _ (h (if c = k then A else A.map (·.add k)) (fun hlt => by rw [if_neg (by omega)]))
end Go.Proofs.YtinhaipnmmgplaaGreat

/-
  Layer 1 (num): products; the reference's.
-/
namespace Go.Proofs.YtinhaipnmmgplaaGreat
set_option maxRecDepth 20000
open Go.RowKit
attribute [local go_sem] rn_true rn_false re_true re_false

theorem all3_zero (a b : Int) : all3 0 a b = (isB a && isB b) := by simp [all3, isB]
theorem mul_big {a b : Int} (h0 : 1 ≤ a) : b ≤ 1099511627776 / a ↔ a * b ≤ 1099511627776 := by
  rw [Int.le_ediv_iff_mul_le (by omega), Int.mul_comm]
/-- |x|. -/
def ab (x : Int) : Int := if x < -x then -x else x
theorem ab_nonneg (x : Int) : 0 ≤ ab x := by unfold ab; split <;> omega
theorem isB_ab (x : Int) : isB x = decide (ab x ≤ 1099511627776) := by
  rw [Bool.eq_iff_iff, isB_iff, decide_eq_true_iff]; unfold ab; split <;> constructor <;> intro h <;> (try constructor) <;> omega
theorem ab_mul (a b : Int) : ab (a * b) = ab a * ab b := by
  unfold ab
  rcases Int.lt_or_le a 0 with ha | ha <;> rcases Int.lt_or_le b 0 with hb | hb
  · have : 0 < a * b := Int.mul_pos_of_neg_of_neg ha hb
    rw [if_neg (by omega), if_pos (by omega), if_pos (by omega), Int.neg_mul_neg]
  · have : a * b ≤ 0 := Int.mul_nonpos_of_nonpos_of_nonneg (by omega) hb
    rcases Int.lt_or_le b (-b) with h | h
    · omega
    rw [if_pos (show a < -a by omega), if_neg (show ¬ b < -b by omega), Int.neg_mul]
    split <;> omega
  · have : a * b ≤ 0 := Int.mul_nonpos_of_nonneg_of_nonpos ha (by omega)
    rw [if_neg (show ¬ a < -a by omega), if_pos (show b < -b by omega), Int.mul_neg]
    split <;> omega
  · have : 0 ≤ a * b := Int.mul_nonneg ha hb
    rw [if_neg (by omega), if_neg (by omega), if_neg (by omega)]

theorem mulOk_ab {a b : Int} (h : isB a = true ∧ isB b = true) (ha : 1 ≤ ab a) : mulOk a b = decide (ab b ≤ 1099511627776 / ab a) := by
  unfold mulOk
  rw [h.1, h.2, isB_ab (a * b), ab_mul, Bool.true_and, Bool.true_and]
  rw [Bool.eq_iff_iff, decide_eq_true_iff, decide_eq_true_iff]
  exact (mul_big ha).symm
theorem mulOk_bd {a b : Int} (h : mulOk a b = true) : -1099511627776 ≤ a * b ∧ a * b ≤ 1099511627776 := by
  simp only [mulOk, Bool.and_eq_true] at h
  exact isB_iff.1 h.2
theorem ab_pos {a : Int} (h : 0 ≤ a) : ab a = a := by unfold ab; rw [if_neg (by omega)]
theorem ab_neg {a : Int} (h : a < 0) : ab a = -a := by unfold ab; rw [if_pos (by omega)]
/-- What the reference's loop keeps: what is added, what is doubled, how often yet. -/
structure Dbl (X Y n p y : Int) : Prop where
  eq : n + p * y = X * Y
  y0 : 0 ≤ y
  yY : y ≤ 1099511627776
  n1 : -1099511627776 ≤ n
  n2 : n ≤ 1099511627776
  p1 : -4398046511104 ≤ p
  p2 : p ≤ 4398046511104
  pos : 0 ≤ X → 0 ≤ n ∧ 0 ≤ p
  neg : X ≤ 0 → n ≤ 0 ∧ p ≤ 0
/-- Behind a round: the next n, the next y. -/
def nx (n p y : Int) : Int := if y % 2 = 1 then n + p else n
theorem Dbl.next {X Y n p y : Int} (h : Dbl X Y n p y) : nx n p y + (p + p) * (y / 2) = X * Y := by
  have e : y = 2 * (y / 2) + y % 2 := by omega
  have h2 : p * y = (p + p) * (y / 2) + p * (y % 2) := by
    rw [e, Int.mul_add, ← Int.mul_assoc, Int.mul_comm p 2, Int.two_mul]
    congr 1
    · congr 1; omega
    · congr 1; omega
  have h3 := h.eq
  rw [h2] at h3
  unfold nx
  split
  · rename_i h1; rw [h1, Int.mul_one] at h3; omega
  · rename_i h1
    rw [show y % 2 = 0 by omega, Int.mul_zero] at h3; omega
theorem Dbl.round {X Y n p y : Int} (h : Dbl X Y n p y) (hn : isB (nx n p y) = true) (hp : y / 2 = 0 ∨ isB p = true) : Dbl X Y (nx n p y) (p + p) (y / 2) ∨ (y / 2 = 0 ∧ nx n p y = X * Y) := by
  have hy := h.y0
  have hY := h.yY
  have hs : (0 ≤ X → 0 ≤ nx n p y) ∧ (X ≤ 0 → nx n p y ≤ 0) := by
    unfold nx; split
    · exact ⟨fun hx => by have := h.pos hx; omega, fun hx => by have := h.neg hx; omega⟩
    · exact ⟨fun hx => (h.pos hx).1, fun hx => (h.neg hx).1⟩
  by_cases h0 : y / 2 = 0
  · right
    refine ⟨h0, ?_⟩
    have := h.next
    rw [h0, Int.mul_zero] at this; omega
  · left
    have hpb := isB_iff.1 (hp.resolve_left h0)
    have hnb := isB_iff.1 hn
    exact ⟨h.next, by omega, by omega, hnb.1, hnb.2, by omega, by omega, fun hx => ⟨hs.1 hx, by have := (h.pos hx).2; omega⟩, fun hx => ⟨hs.2 hx, by have := (h.neg hx).2; omega⟩⟩
theorem Dbl.big {X Y n p y : Int} (h : Dbl X Y n p y) (hbad : isB (nx n p y) = false ∨ (0 < y / 2 ∧ isB p = false)) : isB (X * Y) = false := by
  have hy := h.y0
  have e := h.next
  have hs : (0 ≤ X → 0 ≤ nx n p y) ∧ (X ≤ 0 → nx n p y ≤ 0) := by
    unfold nx; split
    · exact ⟨fun hx => by have := h.pos hx; omega, fun hx => by have := h.neg hx; omega⟩
    · exact ⟨fun hx => (h.pos hx).1, fun hx => (h.neg hx).1⟩
  have hy2 : 0 ≤ y / 2 := by omega
  rw [isB_not]
  rcases Int.le_total 0 X with hX | hX
  · have hp := (h.pos hX).2
    have hn := hs.1 hX
    have hm : 0 ≤ (p + p) * (y / 2) := Int.mul_nonneg (by omega) hy2
    rcases hbad with hb | ⟨h1, hb⟩
    · have := isB_not.1 hb; omega
    · have := isB_not.1 hb
      have h2 : (p + p) * 1 ≤ (p + p) * (y / 2) := Int.mul_le_mul_of_nonneg_left (by omega) (by omega)
      omega
  · have hp := (h.neg hX).2
    have hn := hs.2 hX
    have hm : (p + p) * (y / 2) ≤ 0 := Int.mul_nonpos_of_nonpos_of_nonneg (by omega) hy2
    rcases hbad with hb | ⟨h1, hb⟩
    · have := isB_not.1 hb; omega
    · have := isB_not.1 hb
      have h2 : (p + p) * (y / 2) ≤ (p + p) * 1 := Int.mul_le_mul_of_nonpos_left (by omega) (by omega)
      omega
theorem Dbl.start {X Y : Int} (h1 : -1099511627776 ≤ X) (h2 : X ≤ 1099511627776) (h3 : 0 ≤ Y) (h4 : Y ≤ 1099511627776) : Dbl X Y 0 X Y :=
  ⟨by omega, h3, h4, by omega, by omega, by omega, by omega, fun h => ⟨by omega, h⟩, fun h => ⟨by omega, h⟩⟩
theorem mulOk_of {a b X Y : Int} (ha : isB a = true) (hb : isB b = true) (h : X * Y = a * b) : (isB (X * Y) = false → mulOk a b = false) ∧ (isB (X * Y) = true → mulOk a b = true) := by
  rw [h]; unfold mulOk; rw [ha, hb]
  exact ⟨fun h => by rw [h]; rfl, fun h => by rw [h]; rfl⟩
/-! The same, each way alone. -/
theorem add_to {a b c : Int} (h : addOk a b = true) (hc : a + b = c) (w : World) : Calls Tryz.prog 94 #[.int .i64 a, .int .i64 b] w fun e w' => e = .returned (.tuple #[.int .i64 c, .int .i64 0]) ∧ Below w.heap.size w w' := by
  subst hc; have := add_any a b w; rwa [h] at this
theorem add_no {a b : Int} (h : addOk a b = false) (w : World) : Calls Tryz.prog 94 #[.int .i64 a, .int .i64 b] w fun e w' => e = .returned (.tuple #[.int .i64 0, .int .i64 2]) ∧ Below w.heap.size w w' := by
  have := add_any a b w; rwa [h] at this
theorem addOk_comm (a b : Int) : addOk a b = addOk b a := by unfold addOk; rw [Int.add_comm a b, Bool.and_comm (isB a) (isB b)]
theorem mulOk_comm (a b : Int) : mulOk a b = mulOk b a := by unfold mulOk; rw [Int.mul_comm a b, Bool.and_comm (isB a) (isB b)]
theorem addOk_parts {a b : Int} (h : addOk a b = true) : isB a = true ∧ isB b = true ∧ isB (a + b) = true := by simpa [addOk, and_assoc] using h
theorem mulOk_parts {a b : Int} (h : mulOk a b = true) : isB a = true ∧ isB b = true ∧ isB (a * b) = true := by simpa [mulOk, and_assoc] using h
theorem mul_0 {a : Int} (h : isB a = true) : mulOk a 0 = true := by unfold mulOk; rw [h, Int.mul_zero]; rfl
theorem mul_1 {a : Int} (h : isB a = true) : mulOk a 1 = true := by unfold mulOk; rw [h, Int.mul_one, h]; rfl
theorem mul_m1 {a : Int} (h : isB a = true) : mulOk a (-1) = true := by
  have := isB_iff.1 h
  unfold mulOk; rw [h, show a * (-1) = -a by omega, show isB (-a) = true from isB_iff.2 (by omega)]; rfl
end Go.Proofs.YtinhaipnmmgplaaGreat
