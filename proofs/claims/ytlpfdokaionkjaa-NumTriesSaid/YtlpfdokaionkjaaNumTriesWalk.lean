/-
  The walk of NumTries.
-/
import Derived.Test.YtlpfdokaionkjaaAwake1
namespace Go.Proofs.Ytlpfdokaionkjaa
open Go.RowKit

theorem on_idle (p : Addr) (w : World) :
    CallsD Try.prog 41 #[.pointer (some p)] .returning w fun e u' w' => e = .returned (.tuple #[]) ∧ u' = .returning ∧ w' = w := by
  refine callsD_of_wpS Try.func41 rfl fun c₀ cs hu => ?_
  apply wpS_seq
  apply wpS_region
  simp [wpOpsS, go_sem, recoverD, hu, Try.ntmps41, Exit.thenS]
  refine wpS_of_wp ?_
  simp only [Array.replicate_succ, Array.replicate_zero, List.push_toArray, List.append_toArray, List.nil_append, List.cons_append, List.setIfInBounds_toArray, List.set_cons_succ, List.set_cons_zero]
  go_wp2
  cases c₀
  simp_all [bodyPostS, results, Try.results41]
theorem on_other (p : Addr) (s : ByteArray) (x : Bool) (older : List PanicEntry) (w : World) (h1 : w.cell? p = some (.bool x)) (h2 : w.frozen? p = false) :
    CallsD Try.prog 41 #[.pointer (some p)] (.panicking ({ v := .iface 9 (.string s), recovered := false } :: older)) w fun e u' w' =>
      e = .returned (.tuple #[]) ∧ u' = .panicking ({ v := .iface 9 (.string s), recovered := true } :: older) ∧ w' = w.setCell p (.bool true) := by
  refine callsD_of_wpS Try.func41 rfl fun c₀ cs hu => ?_
  apply wpS_seq
  apply wpS_region
  simp [wpOpsS, go_sem, recoverD, hu, Try.ntmps41, Exit.thenS]
  refine wpS_of_wp ?_
  simp only [Array.replicate_succ, Array.replicate_zero, List.push_toArray, List.append_toArray, List.nil_append, List.cons_append, List.setIfInBounds_toArray, List.set_cons_succ, List.set_cons_zero]
  go_wp2
  simp [bodyPostS, results, Try.results41]

/-- "other" -/
def otherS : ByteArray := ⟨#[111, 116, 104, 101, 114]⟩
/-- The closure that is tried: its three ways. -/
theorem fn_other (b : Nat) (w : World) (h5 : w.cell? ⟨b + 2, 0, none⟩ = some (.bool true)) :
    Calls Try.prog 42 #[.pointer (some ⟨b + 2, 0, none⟩), .pointer (some ⟨b, 0, none⟩), .pointer (some ⟨b + 1, 0, none⟩)] w fun e w' => e = .panicked [{ v := .iface 9 (.string otherS), recovered := false }] ∧ w = w' := by
  go_enter Try.func42, Try.ntmps42
  go_wp2
  exact ⟨rfl, rfl, rfl⟩
theorem fn_ok (b : Nat) (n : Int) (w : World) (h5 : w.cell? ⟨b + 2, 0, none⟩ = some (.bool false)) (h3 : w.cell? ⟨b, 0, none⟩ = some (.int .i64 n)) (h4 : w.cell? ⟨b + 1, 0, none⟩ = some (.int .i64 0)) :
    Calls Try.prog 42 #[.pointer (some ⟨b + 2, 0, none⟩), .pointer (some ⟨b, 0, none⟩), .pointer (some ⟨b + 1, 0, none⟩)] w fun e w' => e = .returned (.int .i64 n) ∧ w = w' := by
  go_enter Try.func42, Try.ntmps42
  go_wp2_with (go_at_call 40; refine (must_ok _ _).mono ?_; rintro e w2 ⟨rfl, rfl⟩)
  go_ret
  exact ⟨rfl, rfl⟩
theorem fn_err (b : Nat) (n er : Int) (w : World) (hne : er ≠ 0) (h5 : w.cell? ⟨b + 2, 0, none⟩ = some (.bool false)) (h3 : w.cell? ⟨b, 0, none⟩ = some (.int .i64 n)) (h4 : w.cell? ⟨b + 1, 0, none⟩ = some (.int .i64 er)) :
    Calls Try.prog 42 #[.pointer (some ⟨b + 2, 0, none⟩), .pointer (some ⟨b, 0, none⟩), .pointer (some ⟨b + 1, 0, none⟩)] w fun e w' => e = .panicked [{ v := .iface 28 (.int .i64 er), recovered := false }] ∧ w = w' := by
  go_enter Try.func42, Try.ntmps42
  go_wp2_with (go_at_call 40; refine (must_err _ _ _ hne).mono ?_; rintro e w2 ⟨rfl, rfl⟩)
  exact ⟨rfl, rfl, rfl⟩

/-- The four blocks that 'tried' lays. -/
def triedW (w : World) (n e : Int) (o : Bool) : World := (((w.alloc (.cells #[.int .i64 n] 3)).alloc (.cells #[.int .i64 e] 28)).alloc (.cells #[.bool o] 4)).alloc (.cells #[.bool false] 4)
theorem triedW_below (w : World) (n e : Int) (o : Bool) : Below w.heap.size w (triedW w n e o) := ((((Below.refl _ _).alloc (Nat.le_refl _) _).alloc (by simp) _).alloc (by simp; omega) _).alloc (by simp; omega) _
theorem triedW_size (w : World) (n e : Int) (o : Bool) : (triedW w n e o).heap.size = w.heap.size + 4 := by simp [triedW]
theorem triedW_cells (w : World) (n e : Int) (o : Bool) : (triedW w n e o).cell? ⟨w.heap.size, 0, none⟩ = some (.int .i64 n) ∧ (triedW w n e o).cell? ⟨w.heap.size + 1, 0, none⟩ = some (.int .i64 e) ∧ (triedW w n e o).cell? ⟨w.heap.size + 2, 0, none⟩ = some (.bool o) ∧ (triedW w n e o).cell? ⟨w.heap.size + 3, 0, none⟩ = some (.bool false) := by
  unfold triedW
  refine ⟨?_, ?_, ?_, ?_⟩ <;> simp [go_sem]
theorem triedW_frozen (w : World) (n e : Int) (o : Bool) : (triedW w n e o).frozen? ⟨w.heap.size + 3, 0, none⟩ = false := by
  unfold triedW; simp [go_sem]
theorem unfrozen {B : Nat} {W w1 : World} (hb : Below B W w1) {b o : Nat} (h : b < B) (hc : W.frozen? ⟨b, o, none⟩ = false) : w1.frozen? ⟨b, o, none⟩ = false := (hb.frozen (p := ⟨b, o, none⟩) h).trans hc
theorem sees {B : Nat} {W w1 : World} (hb : Below B W w1) {b o : Nat} {v : Value} (h : b < B) (hc : W.cell? ⟨b, o, none⟩ = some v) : w1.cell? ⟨b, o, none⟩ = some v := (hb.cell (p := ⟨b, o, none⟩) h).trans hc
set_option maxHeartbeats 2000000 in
theorem tried_other (n e : Int) (w : World) :
    Calls Try.prog 27 #[.int .i64 n, .int .i64 e, .bool true] w fun r w' => r = .returned (.tuple #[.int .i64 0, .int .i64 0, .bool true]) ∧ Below w.heap.size w w' := by
  have hmf : ∀ (fn : Fn) (first cap : Array Value) (w : World), (Instr.makeFunc fn first cap).run Try.prog w = .ok (.func fn first cap) w := fun _ _ _ _ => rfl
  obtain ⟨c0, c1, c2, c3⟩ := triedW_cells w n e true
  have Ht := Lib.hid (try_other 42 #[.pointer (some ⟨w.heap.size + 2, 0, none⟩), .pointer (some ⟨w.heap.size, 0, none⟩), .pointer (some ⟨w.heap.size + 1, 0, none⟩)] otherS (triedW w n e true) (fun w => by simp [go_sem]) (fun w1 h1 h2 =>
    (fn_other w.heap.size w1 (sees h2 (by rw [triedW_size]; omega) c2)).mono fun e w' h => ⟨h.1, by rw [← h.2]; exact Below.refl _ _⟩))
  have H0 := Lib.hid (triedW_below w n e true)
  have H3 := Lib.hid c3
  clear c0 c1 c2 c3
  go_enter_defers Try.func27, Try.ntmps27
  go_wp2_with fail
  refine (Ht.out).mono ?_
  rintro r w1 ⟨rfl, hb1⟩
  have hc := Lib.hid (sees hb1 (by rw [triedW_size]; omega) H3.out)
  have hz := Lib.hid (unfrozen hb1 (by rw [triedW_size]; omega) (triedW_frozen w n e true))
  have HB := Lib.hid (bthen H0.out hb1)
  clear hb1
  go_wp2
  refine leaves_cons (f := 41) (args := #[.pointer (some ⟨w.heap.size + 3, 0, none⟩)]) (by simp) (by simp [go_sem]) ?_
  refine (on_other ⟨w.heap.size + 3, 0, none⟩ otherS false [{ v := .iface 9 (.string otherS), recovered := true }] w1 hc.out hz.out).mono ?_
  rintro e u' w'' ⟨rfl, rfl, rfl⟩
  have h4 : (w1.setCell ⟨w.heap.size + 3, 0, none⟩ (.bool true)).cell? ⟨w.heap.size + 3, 0, none⟩ = some (.bool true) := World.cell?_setCell_same' _ _ _ (by rw [hc.out]; rfl)
  simp [Leaves, settle, results, Try.results27, go_sem, h4]
  exact HB.out.setCell (p := ⟨w.heap.size + 3, 0, none⟩) (by show w.heap.size ≤ w.heap.size + 3; omega) _
set_option maxHeartbeats 2000000 in
theorem tried_some (n e : Int) (w : World) :
    Calls Try.prog 27 #[.int .i64 n, .int .i64 e, .bool false] w fun r w' => r = .returned (.tuple #[.int .i64 (if e = 0 then n else 0), .int .i64 e, .bool false]) ∧ Below w.heap.size w w' := by
  have hmf : ∀ (fn : Fn) (first cap : Array Value) (w : World), (Instr.makeFunc fn first cap).run Try.prog w = .ok (.func fn first cap) w := fun _ _ _ _ => rfl
  obtain ⟨c0, c1, c2, c3⟩ := triedW_cells w n e false
  have Ht : Hid (Calls Try.prog 28 #[.func (.func 42) #[] #[.pointer (some ⟨w.heap.size + 2, 0, none⟩), .pointer (some ⟨w.heap.size, 0, none⟩), .pointer (some ⟨w.heap.size + 1, 0, none⟩)]] (triedW w n e false)
      fun r w' => r = .returned (.tuple #[.int .i64 (if e = 0 then n else 0), .int .i64 e]) ∧ Below (triedW w n e false).heap.size (triedW w n e false) w') := by
    refine Lib.hid ?_
    by_cases he : e = 0
    · subst he
      exact try_ret _ _ n _ (fun w => by simp [go_sem]) (fun w1 h1 h2 =>
        (fn_ok w.heap.size n w1 (sees h2 (by rw [triedW_size]; omega) c2) (sees h2 (by rw [triedW_size]; omega) c0) (sees h2 (by rw [triedW_size]; omega) c1)).mono fun e w' h => ⟨h.1, by rw [← h.2]; exact Below.refl _ _⟩)
    · rw [if_neg he]
      exact try_err _ _ e _ (fun w => by simp [go_sem]) (fun w1 h1 h2 =>
        (fn_err w.heap.size n e w1 he (sees h2 (by rw [triedW_size]; omega) c2) (sees h2 (by rw [triedW_size]; omega) c0) (sees h2 (by rw [triedW_size]; omega) c1)).mono fun e w' h => ⟨h.1, by rw [← h.2]; exact Below.refl _ _⟩)
  have H0 := Lib.hid (triedW_below w n e false)
  have H3 := Lib.hid c3
  generalize hx : (if e = 0 then n else 0) = x at Ht ⊢
  clear c0 c1 c2 c3 hx
  go_enter_defers Try.func27, Try.ntmps27
  go_wp2_with fail
  refine (Ht.out).mono ?_
  rintro r w1 ⟨rfl, hb1⟩
  have hc1 := sees hb1 (by rw [triedW_size]; omega) H3.out
  have hz1 := unfrozen hb1 (by rw [triedW_size]; omega) (triedW_frozen w n e false)
  have hc : w1.cell? ⟨w.heap.size + 1 + 1 + 1, 0, none⟩ = some (.bool false) := hc1
  have hz : w1.frozen? ⟨w.heap.size + 1 + 1 + 1, 0, none⟩ = false := hz1
  have HB := Lib.hid (bthen H0.out hb1)
  clear hb1 hc1 hz1
  go_wp2
  refine leaves_cons (f := 41) (args := #[.pointer (some ⟨w.heap.size + 3, 0, none⟩)]) (by simp) (by simp [go_sem]) ?_
  refine (on_idle ⟨w.heap.size + 3, 0, none⟩ _).mono ?_
  rintro e u' w'' ⟨rfl, rfl, rfl⟩
  have h4 : (w1.setCell ⟨w.heap.size + 1 + 1 + 1, 0, none⟩ (.bool false)).cell? ⟨w.heap.size + 1 + 1 + 1, 0, none⟩ = some (.bool false) := World.cell?_setCell_same' _ _ _ (by rw [hc]; rfl)
  simp [Leaves, settle, results, Try.results27, go_sem, h4]
  exact HB.out.setCell (p := ⟨w.heap.size + 1 + 1 + 1, 0, none⟩) (by show w.heap.size ≤ w.heap.size + 1 + 1 + 1; omega) _
set_option maxRecDepth 100000 in
set_option maxHeartbeats 2000000 in
theorem numTries_walk (a : Int) (_ha : -9223372036854775808 ≤ a ∧ a ≤ 9223372036854775807) (b : Int) (_hb : -9223372036854775808 ≤ b ∧ b ≤ 9223372036854775807) (o : Bool) (w : World) :
    Calls Try.prog 8 #[.int .i64 a, .int .i64 b, .bool o] w fun e w' => e = .returned (.bool true) ∧ Below w.heap.size w w' := by
  cases o with
  | true =>
    go_enter Try.func8, Try.ntmps8
    go_wp2_with (first | (go_at_call 27; refine (tried_other _ _ _).mono ?_; rintro e w1 ⟨rfl, hb1⟩; have HB1 := Lib.hid hb1; clear hb1) | (go_at_call 28; refine (try_nil _).mono ?_; rintro e w2 ⟨rfl, hb2⟩; have HB2 := Lib.hid hb2; clear hb2) | (go_at_call 24; refine (awake1 _).mono ?_; rintro e w4 ⟨rfl, hb4⟩; have HB4 := Lib.hid hb4; clear hb4))
    go_ret
    exact ⟨rfl, bthen (bthen HB1.out HB2.out) HB4.out⟩
  | false =>
    by_cases he : b = 0
    · subst he
      have Ht := Lib.hid (fun w => tried_some a 0 w)
      go_enter Try.func8, Try.ntmps8
      go_wp2_with (first | (go_at_call 27; refine (Ht.out _).mono ?_; rw [if_pos rfl]; rintro e w1 ⟨rfl, hb1⟩; have HB1 := Lib.hid hb1; clear hb1) | (go_at_call 28; refine (try_nil _).mono ?_; rintro e w2 ⟨rfl, hb2⟩; have HB2 := Lib.hid hb2; clear hb2) | (go_at_call 24; refine (awake1 _).mono ?_; rintro e w4 ⟨rfl, hb4⟩; have HB4 := Lib.hid hb4; clear hb4))
      go_ret
      exact ⟨rfl, bthen (bthen HB1.out HB2.out) HB4.out⟩
    · have Ht := Lib.hid (fun w => tried_some a b w)
      have He := Lib.hid he
      have hne : (b != 0) = true := by simpa using he
      clear he
      go_enter Try.func8, Try.ntmps8
      go_wp2_with (first | (go_at_call 27; refine (Ht.out _).mono ?_; rw [if_neg He.out]; rintro e w1 ⟨rfl, hb1⟩; have HB1 := Lib.hid hb1; clear hb1) | (go_at_call 28; refine (try_nil _).mono ?_; rintro e w2 ⟨rfl, hb2⟩; have HB2 := Lib.hid hb2; clear hb2) | (go_at_call 24; refine (awake1 _).mono ?_; rintro e w4 ⟨rfl, hb4⟩; have HB4 := Lib.hid hb4; clear hb4))
      go_ret
      exact ⟨rfl, bthen (bthen HB1.out HB2.out) HB4.out⟩
end Go.Proofs.Ytlpfdokaionkjaa
