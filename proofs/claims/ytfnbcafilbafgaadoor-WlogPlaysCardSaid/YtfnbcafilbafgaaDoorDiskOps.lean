/-
  Layer 11 (disk): what is done to a disk.
-/
import Derived.Test.YtfnbcafilbafgaaDoorDisk
import Derived.Test.YtfnbcafilbafgaaDoorHeld
namespace Go.Proofs.YtfnbcafilbafgaaDoor
open Go.RowKit
set_option linter.unusedSimpArgs false
attribute [local go_sem] rowAt_setRow rowAt_setCell Later.cell Later.frozen
theorem dnew_anyX (n : Int) (h0 : 0 ≤ n) (h1 : n ≤ 16384) (w : World) :
    Calls Tryd.prog 12 #[.int .i64 n] w fun e w' => ∃ p, e = .returned (.pointer (some ⟨p, 0, none⟩)) ∧ DKX (fun A => A = none) w' p (n * 64) [] 0 ∧ w.heap.size ≤ p ∧ Below w.heap.size w w' := by
  go_enter Tryd.func12, Tryd.ntmps12
  go_wp2_with fail
  go_ret
  exact ⟨w.heap.size, rfl, ⟨none, 0, rowAt_alloc_at _ _ _ _ rfl, IsBy.nil _ _, by simp, fun _ => rfl, rfl⟩, Nat.le_refl _, (Below.refl _ _).alloc (Nat.le_refl _) _⟩
theorem dnew_any (n : Int) (h0 : 0 ≤ n) (h1 : n ≤ 16384) (w : World) :
    Calls Tryd.prog 12 #[.int .i64 n] w fun e w' => ∃ p, e = .returned (.pointer (some ⟨p, 0, none⟩)) ∧ DK w' p (n * 64) [] 0 ∧ w.heap.size ≤ p ∧ Below w.heap.size w w' :=
  (dnew_anyX n h0 h1 w).mono fun _ _ ⟨p, a, b, c, d⟩ => ⟨p, a, b.dk, c, d⟩
theorem dnew_none (n : Int) (h : n < 0 ∨ 16384 < n) (w : World) :
    Calls Tryd.prog 12 #[.int .i64 n] w fun e w' => e = .returned (.pointer none) ∧ w = w' := by
  go_enter Tryd.func12, Tryd.ntmps12
  by_cases h0 : n < 0
  · clear h
    go_wp2_with fail
    go_ret
    exact ⟨rfl, rfl⟩
  · have h1 : ¬ n ≤ 16384 := by omega
    clear h
    go_wp2_with fail
    go_ret
    exact ⟨rfl, rfl⟩
theorem dbytes_any {w : World} {p : Nat} {s f : Int} {l : List UInt8} (h : DK w p s l f) (hlen : l.length ≤ 70368744177664) :
    Calls Tryd.prog 15 #[.pointer (some ⟨p, 0, none⟩)] w fun e w' => ∃ g, e = .returned (.slice (some ⟨g, 0, none⟩) l.length l.length) ∧ rowAt w' g = some ((l.map bc).toArray, 5) ∧ w.heap.size ≤ g ∧ Below w.heap.size w w' := by
  obtain ⟨A, c, h1, h2, h3, h4⟩ := h
  have d1 : w.cell? ⟨p, 1, none⟩ = some (.slice A l.length c) := by rw [cell_of_rowAt h1]; rfl
  have H2 := Lib.hid h2
  clear h1 h2
  go_enter Tryd.func15, Tryd.ntmps15
  go_wp2_with fail
  refine (own_any A c l w H2.out h3 hlen).mono ?_
  rintro e w1 ⟨g, rfl, hr, hg, hb⟩
  have HR := Lib.hid hr
  have HB := Lib.hid hb
  clear hr hb
  go_wp2_with fail
  go_ret
  exact ⟨g, rfl, HR.out, hg, HB.out⟩
theorem dsafe_any {w : World} {p : Nat} {s f : Int} {l : List UInt8} (h : DK w p s l f) :
    Calls Tryd.prog 18 #[.pointer (some ⟨p, 0, none⟩)] w fun e w' => e = .returned (.int .i64 f) ∧ w = w' := by
  obtain ⟨A, c, h1, _⟩ := h
  have d2 : w.cell? ⟨p, 2, none⟩ = some (.int .i64 f) := by rw [cell_of_rowAt h1]; rfl
  clear h1
  go_enter Tryd.func18, Tryd.ntmps18
  go_wp2_with fail
  go_ret
  exact ⟨rfl, rfl⟩
theorem droom_any {w : World} {p : Nat} {s f : Int} {l : List UInt8} (h : DK w p s l f) (h0 : 0 ≤ s) (h1 : s ≤ 1099511627776) (h2 : l.length ≤ 1099511627776) :
    Calls Tryd.prog 30 #[.pointer (some ⟨p, 0, none⟩)] w fun e w' => e = .returned (.int .i64 (s - l.length)) ∧ Below w.heap.size w w' := by
  have hp := h.lt
  obtain ⟨A, c, g1, _⟩ := h
  have d0 : w.cell? ⟨p, 0, none⟩ = some (.int .i64 s) := by rw [cell_of_rowAt g1]; rfl
  have d1 : w.cell? ⟨p, 1, none⟩ = some (.slice A l.length c) := by rw [cell_of_rowAt g1]; rfl
  clear g1
  go_enter Tryd.func30, Tryd.ntmps30
  go_upto_region 3 with fail
  refine region_quiet (by kernel_rfl) (by kernel_rfl) ?_
  repeat (go_big_quiet_step (fail))
  refine wpQuiet_nil ?_
  intro w4 hb4
  have HB4 := Lib.hid hb4
  clear hb4
  go_wp2_with fail
  go_ret
  exact ⟨rfl, HB4.out⟩
theorem dsync_anyX {X : Option Addr → Prop} {w : World} {p : Nat} {s f : Int} {l : List UInt8} (h : DKX X w p s l f) :
    Calls Tryd.prog 34 #[.pointer (some ⟨p, 0, none⟩)] w fun e w' => e = .returned (.tuple #[]) ∧ DKX X w' p s l l.length ∧ Bt p w w' := by
  have HD := Lib.hid h.dk
  obtain ⟨A, c, g1, g2, g3, g4, g5⟩ := h
  have d1 : w.cell? ⟨p, 1, none⟩ = some (.slice A l.length c) := by rw [cell_of_rowAt g1]; rfl
  have d2 : w.cell? ⟨p, 2, none⟩ = some (.int .i64 f) := by rw [cell_of_rowAt g1]; rfl
  have d3 : w.frozen? ⟨p, 2, none⟩ = false := frozen_of_rowAt g1 2
  have G1 := Lib.hid g1
  have G2 := Lib.hid g2
  clear g1 g2
  go_enter Tryd.func34, Tryd.ntmps34
  go_wp2_with fail
  refine bodyPost_end (v := .tuple #[]) (by simp [results, show Tryd.f34.results = #[] from rfl]) rfl ?_
  exact ⟨rfl, ⟨A, c, by rw [rowAt_setCell, if_pos rfl, G1.out]; rfl, G2.out.bt HD.out (Bt.setCell _ _ _ _), g3, g4, g5⟩, Bt.setCell _ _ _ _⟩
theorem dsync_any {w : World} {p : Nat} {s f : Int} {l : List UInt8} (h : DK w p s l f) :
    Calls Tryd.prog 34 #[.pointer (some ⟨p, 0, none⟩)] w fun e w' => e = .returned (.tuple #[]) ∧ DK w' p s l l.length ∧ Bt p w w' :=
  (dsync_anyX h.dkx).mono fun _ _ ⟨a, b, c⟩ => ⟨a, b.dk, c⟩
theorem row_two {w : World} {p : Nat} {a b c v1 v2 : Value} {T : TypeId} (h : rowAt w p = some (#[a, b, c], T)) : rowAt ((w.setCell ⟨p, 1, none⟩ v1).setCell ⟨p, 2, none⟩ v2) p = some (#[a, v1, v2], T) := by
  rw [rowAt_setCell, if_pos rfl, rowAt_setCell, if_pos rfl, h]; rfl
theorem bt_two (p : Nat) (w : World) (v1 v2 : Value) : Bt p w ((w.setCell ⟨p, 1, none⟩ v1).setCell ⟨p, 2, none⟩ v2) := (Bt.setCell _ _ _ _).trans (Bt.setCell _ _ _ _)
theorem dcut_bad {w : World} {p : Nat} {s f n : Int} {l : List UInt8} (h : DK w p s l f) (hn : n < 0 ∨ (l.length : Int) < n) :
    Calls Tryd.prog 33 #[.pointer (some ⟨p, 0, none⟩), .int .i64 n] w fun e w' => e = .returned (.int .i64 1) ∧ w = w' := by
  obtain ⟨A, c, g1, _⟩ := h
  have d1 : w.cell? ⟨p, 1, none⟩ = some (.slice A l.length c) := by rw [cell_of_rowAt g1]; rfl
  clear g1
  go_enter Tryd.func33, Tryd.ntmps33
  by_cases h0 : n < 0
  · clear hn
    go_wp2_with fail
    go_ret
    exact ⟨rfl, rfl⟩
  · have h1 : decide ((l.length : Int) < n) = true := decide_eq_true (by omega)
    have h2 : decide (n < 0) = false := decide_eq_false h0
    clear hn h0
    go_wp2_with fail
    go_ret
    exact ⟨rfl, rfl⟩
def minI (a b : Int) : Int := if b < a then b else a
theorem row_one {w : World} {p : Nat} {a b c v1 : Value} {T : TypeId} (h : rowAt w p = some (#[a, b, c], T)) : rowAt (w.setCell ⟨p, 1, none⟩ v1) p = some (#[a, v1, c], T) := by
  rw [rowAt_setCell, if_pos rfl, h]; rfl
set_option maxRecDepth 10000 in
set_option maxHeartbeats 4000000 in
theorem dcut_okX {X : Option Addr → Prop} {w : World} {p : Nat} {s f : Int} {l : List UInt8} (h : DKX X w p s l f) (k : Nat) (hk : k ≤ l.length) :
    Calls Tryd.prog 33 #[.pointer (some ⟨p, 0, none⟩), .int .i64 k] w fun e w' => e = .returned (.int .i64 0) ∧ DKX X w' p s (l.take k) (minI f k) ∧ Bt p w w' := by
  have HD := Lib.hid h.dk
  have hp := h.dk.lt
  obtain ⟨A, c, g1, g2, g3, g4, g5⟩ := h
  have d1 : w.cell? ⟨p, 1, none⟩ = some (.slice A l.length c) := by rw [cell_of_rowAt g1]; rfl
  have h1 : decide ((l.length : Int) < (k : Int)) = false := decide_eq_false (by omega)
  have h2 : decide (l.length < k) = false := decide_eq_false (by omega)
  have hkc : k ≤ c := by omega
  have hlk : (l.take k).length = k := by rw [List.length_take]; omega
  have HI := Lib.hid g2
  have G1 := Lib.hid g1
  have HLK := Lib.hid hlk
  clear g1 g2 hlk
  go_enter Tryd.func33, Tryd.ntmps33
  go_upto_region 3 with fail
  refine wp_region_held_drew (S := fun _ : World => True) (by kernel_rfl) trivial (fun hS => ?_)
  have hrow : rowAt w.drew p = some (#[.int .i64 s, .slice A l.length c, .int .i64 f], 62) := by rw [rowAt_drew]; exact G1.out
  have HBT : Hid (Bt p w w.drew) := Lib.hid (Bt.of (Below.refl _ _).drew)
  have HI1 := Lib.hid (HI.out.below (Below.refl _ _).drew)
  have HD1 := Lib.hid (HD.out.below (Below.refl _ _).drew)
  generalize w.drew = W1 at *
  have c1 : W1.cell? ⟨p, 1, none⟩ = some (.slice A l.length c) := by rw [cell_of_rowAt hrow]; rfl
  have c2 : W1.cell? ⟨p, 2, none⟩ = some (.int .i64 f) := by rw [cell_of_rowAt hrow]; rfl
  have f1 : W1.frozen? ⟨p, 1, none⟩ = false := frozen_of_rowAt hrow 1
  clear d1 HI HD
  refine held_take (i := 0) (by simp only [List.getElem?_toArray, List.getElem?_cons_succ, List.getElem?_cons_zero]; rfl) (by decide +kernel) (by decide +kernel) (by decide +kernel) (by exact fun _ _ _ _ h => h) hS (by rfl) ?_
  apply Exists.intro
  refine ⟨fun w' hSw => ?_, ?_⟩
  · go_simp
    with_reducible rfl
  (try simp only [act_put, act_put_none, List.set_cons_zero, List.set_cons_succ])
  refine held_take (i := 1) (by simp only [List.getElem?_toArray, List.getElem?_cons_succ, List.getElem?_cons_zero]; rfl) (by decide +kernel) (by decide +kernel) (by decide +kernel) (by exact fun _ _ _ _ h => h) hS (by rfl) ?_
  apply Exists.intro
  refine ⟨fun w' hSw => ?_, ?_⟩
  · go_simp
    with_reducible rfl
  (try simp only [act_put, act_put_none, List.set_cons_zero, List.set_cons_succ])
  refine held_take (i := 2) (by simp only [List.getElem?_toArray, List.getElem?_cons_succ, List.getElem?_cons_zero]; rfl) (by decide +kernel) (by decide +kernel) (by decide +kernel) (by exact fun _ _ _ _ h => h) hS (by rfl) ?_
  apply Exists.intro
  refine ⟨fun w' hSw => ?_, ?_⟩
  · go_simp
    with_reducible rfl
  (try simp only [act_put, act_put_none, List.set_cons_zero, List.set_cons_succ])
  refine held_take (i := 3) (by simp only [List.getElem?_toArray, List.getElem?_cons_succ, List.getElem?_cons_zero]; rfl) (by decide +kernel) (by decide +kernel) (by decide +kernel) (by exact fun _ _ _ _ h => h) hS (by rfl) ?_
  apply Exists.intro
  refine ⟨fun w' hSw => ?_, ?_⟩
  · go_simp
    with_reducible rfl
  (try simp only [act_put, act_put_none, List.set_cons_zero, List.set_cons_succ])
  refine held_take (i := 4) (by simp only [List.getElem?_toArray, List.getElem?_cons_succ, List.getElem?_cons_zero]; rfl) (by decide +kernel) (by decide +kernel) (by decide +kernel) (by exact fun _ _ _ _ h => h) hS (by rfl) ?_
  apply Exists.intro
  refine ⟨fun w' hSw => ?_, ?_⟩
  · go_simp
    with_reducible rfl
  (try simp only [act_put, act_put_none, List.set_cons_zero, List.set_cons_succ])
  refine held_take (i := 6) (by simp only [List.getElem?_toArray, List.getElem?_cons_succ, List.getElem?_cons_zero]; rfl) (by decide +kernel) (by decide +kernel) (by decide +kernel) (by exact fun _ _ _ _ h => h) hS (by rfl) ?_
  apply Exists.intro
  refine ⟨fun w' hSw => ?_, ?_⟩
  · go_simp
    with_reducible rfl
  (try simp only [act_put, act_put_none, List.set_cons_zero, List.set_cons_succ])
  refine held_take (i := 7) (by simp only [List.getElem?_toArray, List.getElem?_cons_succ, List.getElem?_cons_zero]; rfl) (by decide +kernel) (by decide +kernel) (by decide +kernel) (by exact fun _ _ _ _ h => h) hS (by rfl) ?_
  apply Exists.intro
  refine ⟨fun w' hSw => ?_, ?_⟩
  · go_simp
    with_reducible rfl
  (try simp only [act_put, act_put_none, List.set_cons_zero, List.set_cons_succ])
  refine held_take (i := 9) (by simp only [List.getElem?_toArray, List.getElem?_cons_succ, List.getElem?_cons_zero]; rfl) (by decide +kernel) (by decide +kernel) (by decide +kernel) (by exact fun _ _ _ _ h => h) hS (by rfl) ?_
  apply Exists.intro
  refine ⟨fun w' hSw => ?_, ?_⟩
  · go_simp
    with_reducible rfl
  (try simp only [act_put, act_put_none, List.set_cons_zero, List.set_cons_succ])
  refine held_take (i := 10) (by simp only [List.getElem?_toArray, List.getElem?_cons_succ, List.getElem?_cons_zero]; rfl) (by decide +kernel) (by decide +kernel) (by decide +kernel) (by exact fun _ _ _ _ h => h) hS (by rfl) ?_
  apply Exists.intro
  refine ⟨fun w' hSw => ?_, ?_⟩
  · go_simp
    with_reducible rfl
  (try simp only [act_put, act_put_none, List.set_cons_zero, List.set_cons_succ])
  refine held_take (i := 11) (by simp only [List.getElem?_toArray, List.getElem?_cons_succ, List.getElem?_cons_zero]; rfl) (by decide +kernel) (by decide +kernel) (by decide +kernel) (by exact fun _ _ _ _ h => h) hS (by rfl) ?_
  apply Exists.intro
  refine ⟨fun w' hSw => ?_, ?_⟩
  · go_simp
    with_reducible rfl
  (try simp only [act_put, act_put_none, List.set_cons_zero, List.set_cons_succ])
  refine held_take (i := 13) (by simp only [List.getElem?_toArray, List.getElem?_cons_succ, List.getElem?_cons_zero]; rfl) (by decide +kernel) (by decide +kernel) (by decide +kernel) (by exact fun _ _ _ _ h => h) hS (by rfl) ?_
  apply Exists.intro
  refine ⟨fun w' hSw => ?_, ?_⟩
  · go_simp
    with_reducible rfl
  (try simp only [act_put, act_put_none, List.set_cons_zero, List.set_cons_succ])
  refine wpAnyH_ready (rs := [5, 12]) (by decide +kernel) (by simp) ?_
  refine AllReadyH.cons (i := 5) (by simp only [List.getElem?_toArray, List.getElem?_cons_succ, List.getElem?_cons_zero]; rfl) (fun K hK => ?_) ?_
  · go_simp
    refine hK.out _ _ trivial (fun _ => ?_)
    clear hK K
    (try simp only [act_put, act_put_none, List.set_cons_zero, List.set_cons_succ])
    refine held_take (i := 8) (by simp only [List.getElem?_toArray, List.getElem?_cons_succ, List.getElem?_cons_zero]; rfl) (by decide +kernel) (by decide +kernel) (by decide +kernel) (by exact fun _ _ _ _ h => h) hS (by rfl) ?_
    apply Exists.intro
    refine ⟨fun w' hSw => ?_, ?_⟩
    · go_simp
      with_reducible rfl
    (try simp only [act_put, act_put_none, List.set_cons_zero, List.set_cons_succ])
    refine wpAnyH_ready (rs := [12]) (by decide +kernel) (by simp) ?_
    refine AllReadyH.cons (i := 12) (by simp only [List.getElem?_toArray, List.getElem?_cons_succ, List.getElem?_cons_zero]; rfl) (fun K hK => ?_) ?_
    · go_simp
      refine hK.out _ _ trivial (fun _ => ?_)
      clear hK K
      (try simp only [act_put, act_put_none, List.set_cons_zero, List.set_cons_succ])
      refine held_take (i := 14) (by simp only [List.getElem?_toArray, List.getElem?_cons_succ, List.getElem?_cons_zero]; rfl) (by decide +kernel) (by decide +kernel) (by decide +kernel) (by exact fun _ _ _ _ h => h) hS (by rfl) ?_
      apply Exists.intro
      refine ⟨fun w' hSw => ?_, ?_⟩
      · go_simp
        with_reducible rfl
      (try simp only [act_put, act_put_none, List.set_cons_zero, List.set_cons_succ])
      refine held_take (i := 15) (by simp only [List.getElem?_toArray, List.getElem?_cons_succ, List.getElem?_cons_zero]; rfl) (by decide +kernel) (by decide +kernel) (by decide +kernel) (by exact fun _ _ _ _ h => h) hS (by rfl) ?_
      apply Exists.intro
      refine ⟨fun w' hSw => ?_, ?_⟩
      · go_simp
        with_reducible rfl
      (try simp only [act_put, act_put_none, List.set_cons_zero, List.set_cons_succ])
      refine held_take (i := 16) (by simp only [List.getElem?_toArray, List.getElem?_cons_succ, List.getElem?_cons_zero]; rfl) (by decide +kernel) (by decide +kernel) (by decide +kernel) (by exact fun _ _ _ _ h => h) hS (by rfl) ?_
      apply Exists.intro
      refine ⟨fun w' hSw => ?_, ?_⟩
      · go_simp
        with_reducible rfl
      (try simp only [act_put, act_put_none, List.set_cons_zero, List.set_cons_succ])
      refine wpAnyH_ready (rs := [17]) (by decide +kernel) (by simp) ?_
      refine AllReadyH.cons (i := 17) (by simp only [List.getElem?_toArray, List.getElem?_cons_succ, List.getElem?_cons_zero]; rfl) (fun K hK => ?_) ?_
      · go_simp
        refine hK.out _ _ trivial (fun _ => ?_)
        clear hK K
        (try simp only [act_put, act_put_none, List.set_cons_zero, List.set_cons_succ])
        refine held_take (i := 18) (by simp only [List.getElem?_toArray, List.getElem?_cons_succ, List.getElem?_cons_zero]; rfl) (by decide +kernel) (by decide +kernel) (by decide +kernel) (by exact fun _ _ _ _ h => h) hS (by rfl) ?_
        apply Exists.intro
        refine ⟨fun w' hSw => ?_, ?_⟩
        · go_simp
          with_reducible rfl
        (try simp only [act_put, act_put_none, List.set_cons_zero, List.set_cons_succ])
        refine held_take (i := 19) (by simp only [List.getElem?_toArray, List.getElem?_cons_succ, List.getElem?_cons_zero]; rfl) (by decide +kernel) (by decide +kernel) (by decide +kernel) (by exact fun _ _ _ _ h => h) hS (by rfl) ?_
        apply Exists.intro
        refine ⟨fun w' hSw => ?_, ?_⟩
        · go_simp
          with_reducible rfl
        (try simp only [act_put, act_put_none, List.set_cons_zero, List.set_cons_succ])
        refine wpAnyH_ready (rs := [20]) (by decide +kernel) (by simp) ?_
        refine AllReadyH.cons (i := 20) (by simp only [List.getElem?_toArray, List.getElem?_cons_succ, List.getElem?_cons_zero]; rfl) (fun K hK => ?_) ?_
        · have f2 : (W1.setCell ⟨p, 1, none⟩ (.slice A k k)).frozen? ⟨p, 2, none⟩ = false := frozen_of_rowAt (row_one hrow) 2
          have e2 : (W1.setCell ⟨p, 1, none⟩ (.slice A k k)).cell? ⟨p, 2, none⟩ = some (.int .i64 f) := by rw [cell_of_rowAt (row_one hrow)]; rfl
          go_simp
          refine hK.out _ _ trivial (fun _ => ?_)
          clear hK K f2 e2
          (try simp only [act_put, act_put_none, List.set_cons_zero, List.set_cons_succ])
          refine wpAnyH_done (by decide +kernel) ?_ _
          go_wp2_with fail
          all_goals go_ret
          all_goals exact ⟨rfl, ⟨A, k, by rw [row_two hrow, HLK.out]; unfold minI; first | rw [if_pos (by omega)] | rw [if_neg (by omega)], (HI1.out.bt HD1.out (bt_two p W1 _ _)).take k, by rw [HLK.out]; exact Nat.le_refl _, fun h => by have := g4 h; omega, g5⟩, HBT.out.trans (bt_two p W1 _ _)⟩
        exact AllReadyH.nil
      exact AllReadyH.nil
    exact AllReadyH.nil
  refine AllReadyH.cons (i := 12) (by simp only [List.getElem?_toArray, List.getElem?_cons_succ, List.getElem?_cons_zero]; rfl) (fun K hK => ?_) ?_
  · go_simp
    refine hK.out _ _ trivial (fun _ => ?_)
    clear hK K
    (try simp only [act_put, act_put_none, List.set_cons_zero, List.set_cons_succ])
    refine held_take (i := 14) (by simp only [List.getElem?_toArray, List.getElem?_cons_succ, List.getElem?_cons_zero]; rfl) (by decide +kernel) (by decide +kernel) (by decide +kernel) (by exact fun _ _ _ _ h => h) hS (by rfl) ?_
    apply Exists.intro
    refine ⟨fun w' hSw => ?_, ?_⟩
    · go_simp
      with_reducible rfl
    (try simp only [act_put, act_put_none, List.set_cons_zero, List.set_cons_succ])
    refine wpAnyH_ready (rs := [5]) (by decide +kernel) (by simp) ?_
    refine AllReadyH.cons (i := 5) (by simp only [List.getElem?_toArray, List.getElem?_cons_succ, List.getElem?_cons_zero]; rfl) (fun K hK => ?_) ?_
    · go_simp
      refine hK.out _ _ trivial (fun _ => ?_)
      clear hK K
      (try simp only [act_put, act_put_none, List.set_cons_zero, List.set_cons_succ])
      refine held_take (i := 8) (by simp only [List.getElem?_toArray, List.getElem?_cons_succ, List.getElem?_cons_zero]; rfl) (by decide +kernel) (by decide +kernel) (by decide +kernel) (by exact fun _ _ _ _ h => h) hS (by rfl) ?_
      apply Exists.intro
      refine ⟨fun w' hSw => ?_, ?_⟩
      · go_simp
        with_reducible rfl
      (try simp only [act_put, act_put_none, List.set_cons_zero, List.set_cons_succ])
      refine held_take (i := 15) (by simp only [List.getElem?_toArray, List.getElem?_cons_succ, List.getElem?_cons_zero]; rfl) (by decide +kernel) (by decide +kernel) (by decide +kernel) (by exact fun _ _ _ _ h => h) hS (by rfl) ?_
      apply Exists.intro
      refine ⟨fun w' hSw => ?_, ?_⟩
      · go_simp
        with_reducible rfl
      (try simp only [act_put, act_put_none, List.set_cons_zero, List.set_cons_succ])
      refine held_take (i := 16) (by simp only [List.getElem?_toArray, List.getElem?_cons_succ, List.getElem?_cons_zero]; rfl) (by decide +kernel) (by decide +kernel) (by decide +kernel) (by exact fun _ _ _ _ h => h) hS (by rfl) ?_
      apply Exists.intro
      refine ⟨fun w' hSw => ?_, ?_⟩
      · go_simp
        with_reducible rfl
      (try simp only [act_put, act_put_none, List.set_cons_zero, List.set_cons_succ])
      refine wpAnyH_ready (rs := [17]) (by decide +kernel) (by simp) ?_
      refine AllReadyH.cons (i := 17) (by simp only [List.getElem?_toArray, List.getElem?_cons_succ, List.getElem?_cons_zero]; rfl) (fun K hK => ?_) ?_
      · go_simp
        refine hK.out _ _ trivial (fun _ => ?_)
        clear hK K
        (try simp only [act_put, act_put_none, List.set_cons_zero, List.set_cons_succ])
        refine held_take (i := 18) (by simp only [List.getElem?_toArray, List.getElem?_cons_succ, List.getElem?_cons_zero]; rfl) (by decide +kernel) (by decide +kernel) (by decide +kernel) (by exact fun _ _ _ _ h => h) hS (by rfl) ?_
        apply Exists.intro
        refine ⟨fun w' hSw => ?_, ?_⟩
        · go_simp
          with_reducible rfl
        (try simp only [act_put, act_put_none, List.set_cons_zero, List.set_cons_succ])
        refine held_take (i := 19) (by simp only [List.getElem?_toArray, List.getElem?_cons_succ, List.getElem?_cons_zero]; rfl) (by decide +kernel) (by decide +kernel) (by decide +kernel) (by exact fun _ _ _ _ h => h) hS (by rfl) ?_
        apply Exists.intro
        refine ⟨fun w' hSw => ?_, ?_⟩
        · go_simp
          with_reducible rfl
        (try simp only [act_put, act_put_none, List.set_cons_zero, List.set_cons_succ])
        refine wpAnyH_ready (rs := [20]) (by decide +kernel) (by simp) ?_
        refine AllReadyH.cons (i := 20) (by simp only [List.getElem?_toArray, List.getElem?_cons_succ, List.getElem?_cons_zero]; rfl) (fun K hK => ?_) ?_
        · have f2 : (W1.setCell ⟨p, 1, none⟩ (.slice A k k)).frozen? ⟨p, 2, none⟩ = false := frozen_of_rowAt (row_one hrow) 2
          have e2 : (W1.setCell ⟨p, 1, none⟩ (.slice A k k)).cell? ⟨p, 2, none⟩ = some (.int .i64 f) := by rw [cell_of_rowAt (row_one hrow)]; rfl
          go_simp
          refine hK.out _ _ trivial (fun _ => ?_)
          clear hK K f2 e2
          (try simp only [act_put, act_put_none, List.set_cons_zero, List.set_cons_succ])
          refine wpAnyH_done (by decide +kernel) ?_ _
          go_wp2_with fail
          all_goals go_ret
          all_goals exact ⟨rfl, ⟨A, k, by rw [row_two hrow, HLK.out]; unfold minI; first | rw [if_pos (by omega)] | rw [if_neg (by omega)], (HI1.out.bt HD1.out (bt_two p W1 _ _)).take k, by rw [HLK.out]; exact Nat.le_refl _, fun h => by have := g4 h; omega, g5⟩, HBT.out.trans (bt_two p W1 _ _)⟩
        exact AllReadyH.nil
      exact AllReadyH.nil
    exact AllReadyH.nil
  exact AllReadyH.nil
theorem dcut_ok {w : World} {p : Nat} {s f : Int} {l : List UInt8} (h : DK w p s l f) (k : Nat) (hk : k ≤ l.length) :
    Calls Tryd.prog 33 #[.pointer (some ⟨p, 0, none⟩), .int .i64 k] w fun e w' => e = .returned (.int .i64 0) ∧ DK w' p s (l.take k) (minI f k) ∧ Bt p w w' :=
  (dcut_okX h.dkx k hk).mono fun _ _ ⟨a, b, c⟩ => ⟨a, b.dk, c⟩
end Go.Proofs.YtfnbcafilbafgaaDoor
