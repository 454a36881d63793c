/-
  Layer 11 (disk): swapped in, appended, behind a crash.
-/
import Derived.Test.YtfnbcafilbafgaaDoorDiskOps
import Derived.Test.YtfnbcafilbafgaaDoorHeld
namespace Go.Proofs.YtfnbcafilbafgaaDoor
open Go.RowKit
set_option linter.unusedSimpArgs false
attribute [local go_sem] rowAt_setRow rowAt_setCell Later.cell Later.frozen
theorem dswap_full {w : World} {p : Nat} {s f : Int} {l t : List UInt8} {B : Option Addr} {c' : Nat} (h : DK w p s l f) (hn : s < (t.length : Int)) :
    Calls Tryd.prog 38 #[.pointer (some ⟨p, 0, none⟩), .slice B t.length c'] w fun e w' => e = .returned (.int .i64 7) ∧ w = w' := by
  obtain ⟨A, c, g1, _⟩ := h
  have d0 : w.cell? ⟨p, 0, none⟩ = some (.int .i64 s) := by rw [cell_of_rowAt g1]; rfl
  have h1 : decide (s < (t.length : Int)) = true := decide_eq_true hn
  clear g1 hn
  go_enter Tryd.func38, Tryd.ntmps38
  go_wp2_with fail
  go_ret
  exact ⟨rfl, rfl⟩
theorem dswap_okX {X Y : Option Addr → Prop} {w : World} {p : Nat} {s f : Int} {l t : List UInt8} {B : Option Addr} {c' : Nat} (h : DKX X w p s l f) (hX : ∀ x : Addr, w.heap.size ≤ x.block → Y (some x)) (ht : IsBy w B t) (htc : t.length ≤ c') (hlen : t.length ≤ 70368744177664) (hn : (t.length : Int) ≤ s) :
    Calls Tryd.prog 38 #[.pointer (some ⟨p, 0, none⟩), .slice B t.length c'] w fun e w' => e = .returned (.int .i64 0) ∧ DKX Y w' p s t t.length ∧ Bt p w w' := by
  have HD := Lib.hid h.dk
  have hp := h.dk.lt
  obtain ⟨A, c, g1, g2, g3, g4, _⟩ := h
  have d0 : w.cell? ⟨p, 0, none⟩ = some (.int .i64 s) := by rw [cell_of_rowAt g1]; rfl
  have h1 : decide (s < (t.length : Int)) = false := decide_eq_false (by omega)
  have G1 := Lib.hid g1
  have HT := Lib.hid ht
  clear g1 g2 ht hn
  go_enter Tryd.func38, Tryd.ntmps38
  go_wp2_with fail
  refine (own_any B c' t w HT.out htc hlen).mono ?_
  rintro e w1 ⟨g, rfl, hr, hg, hb⟩
  have hrow := rowKeep hb G1.out
  have e1 : w1.cell? ⟨p, 1, none⟩ = some (.slice A l.length c) := by rw [cell_of_rowAt hrow]; rfl
  have e2 : w1.cell? ⟨p, 2, none⟩ = some (.int .i64 f) := by rw [cell_of_rowAt hrow]; rfl
  have e3 : w1.frozen? ⟨p, 1, none⟩ = false := frozen_of_rowAt hrow 1
  have e4 : w1.frozen? ⟨p, 2, none⟩ = false := frozen_of_rowAt hrow 2
  have e5 : (w1.setCell ⟨p, 1, none⟩ (.slice (some ⟨g, 0, none⟩) t.length t.length)).cell? ⟨p, 2, none⟩ = some (.int .i64 f) := by rw [cell_of_rowAt (row_one hrow)]; rfl
  have e6 : (w1.setCell ⟨p, 1, none⟩ (.slice (some ⟨g, 0, none⟩) t.length t.length)).frozen? ⟨p, 2, none⟩ = false := frozen_of_rowAt (row_one hrow) 2
  have HROW := Lib.hid hrow
  have HB := Lib.hid hb
  have HI := Lib.hid (isBy_full hr)
  have HD1 := Lib.hid (HD.out.below hb)
  clear hr hb hrow
  go_wp2_with fail
  go_ret
  exact ⟨rfl, ⟨some ⟨g, 0, none⟩, t.length, row_two HROW.out, HI.out.bt HD1.out (bt_two p w1 _ _), Nat.le_refl _, fun h => (by cases h), hX _ hg⟩, (Bt.of HB.out).trans (bt_two p w1 _ _)⟩
theorem dswap_ok {w : World} {p : Nat} {s f : Int} {l t : List UInt8} {B : Option Addr} {c' : Nat} (h : DK w p s l f) (ht : IsBy w B t) (htc : t.length ≤ c') (hlen : t.length ≤ 70368744177664) (hn : (t.length : Int) ≤ s) :
    Calls Tryd.prog 38 #[.pointer (some ⟨p, 0, none⟩), .slice B t.length c'] w fun e w' => e = .returned (.int .i64 0) ∧ DK w' p s t t.length ∧ Bt p w w' :=
  (dswap_okX (Y := fun _ => True) h.dkx (fun _ _ => trivial) ht htc hlen hn).mono fun _ _ ⟨a, b, c⟩ => ⟨a, b.dk, c⟩
theorem dappend_full {w : World} {p : Nat} {s f : Int} {l t : List UInt8} {B : Option Addr} {c' : Nat} (h : DK w p s l f) (h0 : 0 ≤ s) (h1 : s ≤ 1099511627776) (h2 : l.length ≤ 1099511627776) (hn : s - l.length < (t.length : Int)) :
    Calls Tryd.prog 13 #[.pointer (some ⟨p, 0, none⟩), .slice B t.length c'] w fun e w' => e = .returned (.int .i64 7) ∧ Below w.heap.size w w' := by
  have g1 : decide (s - l.length < (t.length : Int)) = true := decide_eq_true hn
  have HC := Lib.hid (droom_any h h0 h1 h2)
  clear h hn
  go_enter Tryd.func13, Tryd.ntmps13
  go_wp2_with fail
  refine HC.out.mono ?_
  rintro e w1 ⟨rfl, hb⟩
  have HB := Lib.hid hb
  clear hb
  go_wp2_with fail
  go_ret
  exact ⟨rfl, HB.out⟩
theorem wp_app_full {o : Oper} {a : Act} {w : World} {K : Act → World → Prop} {Q : Exit → Act → World → Prop} (s x : Operand)
    (ho : o.op = .call { callee := .builtin .append, args := #[s, x], argTypes := #[24, 24] }) (A B : Option Addr) (l t : List UInt8) (c : Nat) (hs : a.eval s = .slice A l.length l.length) (hx : a.eval x = .slice B t.length c)
    (hl : IsBy w A l) (hA : A = none → l = []) (ht : IsBy w B t) (hB : B = none → c = 0) (hlen : l.length + t.length ≤ 140737488355328)
    (h : ∀ A' c' w', IsBy w' A' (l ++ t) → (l ++ t).length ≤ c' → (A' = none → c' = 0) → Below w.heap.size w w' → ((t = [] ∧ A' = A) ∨ (t ≠ [] ∧ ∃ x, A' = some x ∧ w.heap.size ≤ x.block)) → K (a.put o.dst (.slice A' (l ++ t).length c')) w') : o.wp Tryd.prog a w K Q := by
  obtain ⟨A', c', w', hrun, g1, g2, g3, g4, g5⟩ := app_full hl hA ht hB hlen o.type
  unfold Oper.wp execOp
  simp only [ho, resolve, invoke, builtin, Sem.run_bind, Sem.run_pure, Result.andThen_ok, List.map_toArray, List.map_cons, List.map_nil, hs, hx, hrun]
  exact h A' c' w' g1 g2 g3 g4 g5
set_option maxRecDepth 10000 in
set_option maxHeartbeats 8000000 in
theorem dappend_okY {X Y : Option Addr → Prop} {w : World} {p : Nat} {s f : Int} {l t : List UInt8} {B : Option Addr} {c' : Nat} (h : DKX X w p s l f) (hXY : t = [] → ∀ A, X A → Y A) (hX : t ≠ [] → ∀ x : Addr, w.heap.size ≤ x.block → Y (some x)) (h0 : 0 ≤ s) (h1 : s ≤ 1099511627776) (h2 : l.length ≤ 1099511627776) (ht : IsBy w B t) (hB : B = none → c' = 0) (hn : (t.length : Int) ≤ s - l.length) :
    Calls Tryd.prog 13 #[.pointer (some ⟨p, 0, none⟩), .slice B t.length c'] w fun e w' => e = .returned (.int .i64 0) ∧ DKX Y w' p s (l ++ t) f ∧ Bt p w w' := by
  have g1 : decide (s - l.length < (t.length : Int)) = false := decide_eq_false (by omega)
  have HC := Lib.hid (droom_any h.dk h0 h1 h2)
  have HD := Lib.hid h
  have HT := Lib.hid ht
  have hle : l.length + t.length ≤ 140737488355328 := by omega
  clear h ht hn
  go_enter Tryd.func13, Tryd.ntmps13
  go_wp2_with fail
  refine HC.out.mono ?_
  rintro e w1 ⟨rfl, hb⟩
  have HB := Lib.hid hb
  have HD0 := Lib.hid (HD.out.below hb)
  have HT0 := Lib.hid (HT.out.below hb)
  clear hb HT HD HC
  go_upto_region 5 with fail
  refine wp_region_held_drew (S := fun _ : World => True) (by kernel_rfl) trivial (fun hS => ?_)
  have hd : Below w1.heap.size w1 w1.drew := (Below.refl _ _).drew
  have HD1 := Lib.hid (HD0.out.below hd)
  have HT1 := Lib.hid (HT0.out.below hd)
  have HBT := Lib.hid ((Bt.of (p := p) HB.out).then hd)
  clear hd HD0 HT0 HB
  generalize w1.drew = W1 at *
  have hp := HD1.out.dk.lt
  obtain ⟨A, c, hrow, k2, k3, k4, k5⟩ := HD1.out
  have K5 := Lib.hid k5
  have d1 : W1.cell? ⟨p, 1, none⟩ = some (.slice A l.length c) := by rw [cell_of_rowAt hrow]; rfl
  have HI1 := Lib.hid k2
  have HA : Hid (A = none → l = []) := Lib.hid fun h => by
    have := k4 h
    cases l with
    | nil => rfl
    | cons x xs => simp at k3; omega
  clear k2 k4 k5
  refine held_take (i := 0) (by simp only [List.getElem?_toArray, List.getElem?_cons_succ, List.getElem?_cons_zero]; rfl) (by decide +kernel) (by decide +kernel) (by decide +kernel) (by exact fun _ _ _ _ h => h) hS (by rfl) ?_
  apply Exists.intro
  refine ⟨fun w' hSw => ?_, ?_⟩
  · go_simp
    with_reducible rfl
  (try simp only [act_put, act_put_none, List.set_cons_zero, List.set_cons_succ])
  refine held_take (i := 1) (by simp only [List.getElem?_toArray, List.getElem?_cons_succ, List.getElem?_cons_zero]; rfl) (by decide +kernel) (by decide +kernel) (by decide +kernel) (by exact fun _ _ _ _ h => h) hS (by rfl) ?_
  apply Exists.intro
  refine ⟨fun w' hSw => ?_, ?_⟩
  · go_simp
    with_reducible rfl
  (try simp only [act_put, act_put_none, List.set_cons_zero, List.set_cons_succ])
  refine held_take (i := 2) (by simp only [List.getElem?_toArray, List.getElem?_cons_succ, List.getElem?_cons_zero]; rfl) (by decide +kernel) (by decide +kernel) (by decide +kernel) (by exact fun _ _ _ _ h => h) hS (by rfl) ?_
  apply Exists.intro
  refine ⟨fun w' hSw => ?_, ?_⟩
  · go_simp
    with_reducible rfl
  (try simp only [act_put, act_put_none, List.set_cons_zero, List.set_cons_succ])
  refine held_take (i := 3) (by simp only [List.getElem?_toArray, List.getElem?_cons_succ, List.getElem?_cons_zero]; rfl) (by decide +kernel) (by decide +kernel) (by decide +kernel) (by exact fun _ _ _ _ h => h) hS (by rfl) ?_
  apply Exists.intro
  refine ⟨fun w' hSw => ?_, ?_⟩
  · go_simp
    with_reducible rfl
  (try simp only [act_put, act_put_none, List.set_cons_zero, List.set_cons_succ])
  refine held_take (i := 5) (by simp only [List.getElem?_toArray, List.getElem?_cons_succ, List.getElem?_cons_zero]; rfl) (by decide +kernel) (by decide +kernel) (by decide +kernel) (by exact fun _ _ _ _ h => h) hS (by rfl) ?_
  apply Exists.intro
  refine ⟨fun w' hSw => ?_, ?_⟩
  · go_simp
    with_reducible rfl
  (try simp only [act_put, act_put_none, List.set_cons_zero, List.set_cons_succ])
  refine held_take (i := 6) (by simp only [List.getElem?_toArray, List.getElem?_cons_succ, List.getElem?_cons_zero]; rfl) (by decide +kernel) (by decide +kernel) (by decide +kernel) (by exact fun _ _ _ _ h => h) hS (by rfl) ?_
  apply Exists.intro
  refine ⟨fun w' hSw => ?_, ?_⟩
  · go_simp
    with_reducible rfl
  (try simp only [act_put, act_put_none, List.set_cons_zero, List.set_cons_succ])
  refine held_take (i := 7) (by simp only [List.getElem?_toArray, List.getElem?_cons_succ, List.getElem?_cons_zero]; rfl) (by decide +kernel) (by decide +kernel) (by decide +kernel) (by exact fun _ _ _ _ h => h) hS (by rfl) ?_
  apply Exists.intro
  refine ⟨fun w' hSw => ?_, ?_⟩
  · go_simp
    with_reducible rfl
  (try simp only [act_put, act_put_none, List.set_cons_zero, List.set_cons_succ])
  refine held_take (i := 10) (by simp only [List.getElem?_toArray, List.getElem?_cons_succ, List.getElem?_cons_zero]; rfl) (by decide +kernel) (by decide +kernel) (by decide +kernel) (by exact fun _ _ _ _ h => h) hS (by rfl) ?_
  apply Exists.intro
  refine ⟨fun w' hSw => ?_, ?_⟩
  · go_simp
    with_reducible rfl
  (try simp only [act_put, act_put_none, List.set_cons_zero, List.set_cons_succ])
  refine held_take (i := 11) (by simp only [List.getElem?_toArray, List.getElem?_cons_succ, List.getElem?_cons_zero]; rfl) (by decide +kernel) (by decide +kernel) (by decide +kernel) (by exact fun _ _ _ _ h => h) hS (by rfl) ?_
  apply Exists.intro
  refine ⟨fun w' hSw => ?_, ?_⟩
  · go_simp
    with_reducible rfl
  (try simp only [act_put, act_put_none, List.set_cons_zero, List.set_cons_succ])
  refine held_take (i := 12) (by simp only [List.getElem?_toArray, List.getElem?_cons_succ, List.getElem?_cons_zero]; rfl) (by decide +kernel) (by decide +kernel) (by decide +kernel) (by exact fun _ _ _ _ h => h) hS (by rfl) ?_
  apply Exists.intro
  refine ⟨fun w' hSw => ?_, ?_⟩
  · go_simp
    with_reducible rfl
  (try simp only [act_put, act_put_none, List.set_cons_zero, List.set_cons_succ])
  refine held_take (i := 16) (by simp only [List.getElem?_toArray, List.getElem?_cons_succ, List.getElem?_cons_zero]; rfl) (by decide +kernel) (by decide +kernel) (by decide +kernel) (by exact fun _ _ _ _ h => h) hS (by rfl) ?_
  apply Exists.intro
  refine ⟨fun w' hSw => ?_, ?_⟩
  · go_simp
    with_reducible rfl
  (try simp only [act_put, act_put_none, List.set_cons_zero, List.set_cons_succ])
  refine wpAnyH_ready (rs := [4, 8, 13]) (by decide +kernel) (by simp) ?_
  refine AllReadyH.cons (i := 4) (by simp only [List.getElem?_toArray, List.getElem?_cons_succ, List.getElem?_cons_zero]; rfl) (fun K hK => ?_) ?_
  · go_simp
    refine hK.out _ _ trivial (fun _ => ?_)
    clear hK K
    (try simp only [act_put, act_put_none, List.set_cons_zero, List.set_cons_succ])
    refine wpAnyH_ready (rs := [8, 13]) (by decide +kernel) (by simp) ?_
    refine AllReadyH.cons (i := 8) (by simp only [List.getElem?_toArray, List.getElem?_cons_succ, List.getElem?_cons_zero]; rfl) (fun K hK => ?_) ?_
    · go_simp
      refine hK.out _ _ trivial (fun _ => ?_)
      clear hK K
      (try simp only [act_put, act_put_none, List.set_cons_zero, List.set_cons_succ])
      refine held_take (i := 9) (by simp only [List.getElem?_toArray, List.getElem?_cons_succ, List.getElem?_cons_zero]; rfl) (by decide +kernel) (by decide +kernel) (by decide +kernel) (by exact fun _ _ _ _ h => h) hS (by rfl) ?_
      apply Exists.intro
      refine ⟨fun w' hSw => ?_, ?_⟩
      · go_simp
        with_reducible rfl
      (try simp only [act_put, act_put_none, List.set_cons_zero, List.set_cons_succ])
      refine wpAnyH_ready (rs := [13]) (by decide +kernel) (by simp) ?_
      refine AllReadyH.cons (i := 13) (by simp only [List.getElem?_toArray, List.getElem?_cons_succ, List.getElem?_cons_zero]; rfl) (fun K hK => ?_) ?_
      · go_simp
        refine hK.out _ _ trivial (fun _ => ?_)
        clear hK K
        (try simp only [act_put, act_put_none, List.set_cons_zero, List.set_cons_succ])
        refine held_take (i := 14) (by simp only [List.getElem?_toArray, List.getElem?_cons_succ, List.getElem?_cons_zero]; rfl) (by decide +kernel) (by decide +kernel) (by decide +kernel) (by exact fun _ _ _ _ h => h) hS (by rfl) ?_
        apply Exists.intro
        refine ⟨fun w' hSw => ?_, ?_⟩
        · go_simp
          with_reducible rfl
        (try simp only [act_put, act_put_none, List.set_cons_zero, List.set_cons_succ])
        refine held_take (i := 15) (by simp only [List.getElem?_toArray, List.getElem?_cons_succ, List.getElem?_cons_zero]; rfl) (by decide +kernel) (by decide +kernel) (by decide +kernel) (by exact fun _ _ _ _ h => h) hS (by rfl) ?_
        apply Exists.intro
        refine ⟨fun w' hSw => ?_, ?_⟩
        · go_simp
          with_reducible rfl
        (try simp only [act_put, act_put_none, List.set_cons_zero, List.set_cons_succ])
        refine wpAnyH_ready (rs := [17]) (by decide +kernel) (by simp) ?_
        refine AllReadyH.cons (i := 17) (by simp only [List.getElem?_toArray, List.getElem?_cons_succ, List.getElem?_cons_zero]; rfl) (fun K hK => ?_) ?_
        · rw [if_pos (by rfl)]
          refine wp_app_full _ _ rfl A B l t c' rfl rfl HI1.out HA.out HT1.out hB hle ?_
          intro A' c2 w3 hi hc2 hn2 hb3 hx3
          have HX3 : Hid (Y A') := Lib.hid (hx3.elim (fun ⟨h0, h⟩ => hXY h0 _ (h ▸ K5.out)) (fun ⟨ht, x, hx, h⟩ => hx ▸ hX ht x (Nat.le_trans HBT.out.size h)))
          have hrow3 := rowKeep hb3 hrow
          have e1 : w3.cell? ⟨p, 1, none⟩ = some (.slice A l.length c) := by rw [cell_of_rowAt hrow3]; rfl
          have e3 : w3.frozen? ⟨p, 1, none⟩ = false := frozen_of_rowAt hrow3 1
          have HD3 := Lib.hid (HD1.out.dk.below hb3)
          have HBT3 := Lib.hid (HBT.out.then hb3)
          have HI := Lib.hid hi
          have HN := Lib.hid hn2
          have HROW := Lib.hid hrow3
          clear hb3 hi hn2 hrow3 hx3
          refine hK.out _ _ trivial (fun _ => ?_)
          clear hK K
          (try simp only [act_put, act_put_none, List.set_cons_zero, List.set_cons_succ])
          refine held_take (i := 18) (by simp only [List.getElem?_toArray, List.getElem?_cons_succ, List.getElem?_cons_zero]; rfl) (by decide +kernel) (by decide +kernel) (by decide +kernel) (by exact fun _ _ _ _ h => h) hS (by rfl) ?_
          apply Exists.intro
          refine ⟨fun w' hSw => ?_, ?_⟩
          · go_simp
            with_reducible rfl
          (try simp only [act_put, act_put_none, List.set_cons_zero, List.set_cons_succ])
          refine held_take (i := 19) (by simp only [List.getElem?_toArray, List.getElem?_cons_succ, List.getElem?_cons_zero]; rfl) (by decide +kernel) (by decide +kernel) (by decide +kernel) (by exact fun _ _ _ _ h => h) hS (by rfl) ?_
          apply Exists.intro
          refine ⟨fun w' hSw => ?_, ?_⟩
          · go_simp
            with_reducible rfl
          (try simp only [act_put, act_put_none, List.set_cons_zero, List.set_cons_succ])
          refine wpAnyH_ready (rs := [20]) (by decide +kernel) (by simp) ?_
          refine AllReadyH.cons (i := 20) (by simp only [List.getElem?_toArray, List.getElem?_cons_succ, List.getElem?_cons_zero]; rfl) (fun K hK => ?_) ?_
          · go_simp
            refine hK.out _ _ trivial (fun _ => ?_)
            clear hK K
            (try simp only [act_put, act_put_none, List.set_cons_zero, List.set_cons_succ])
            refine wpAnyH_done (by decide +kernel) ?_ _
            go_wp2_with fail
            go_ret
            exact ⟨rfl, ⟨A', c2, by rw [List.length_append]; exact row_one HROW.out, HI.out.bt HD3.out (Bt.setCell _ _ _ _), by first | exact hc2 | (rw [List.length_append]; exact hc2), HN.out, HX3.out⟩, HBT3.out.trans (Bt.setCell _ _ _ _)⟩
          exact AllReadyH.nil
        exact AllReadyH.nil
      exact AllReadyH.nil
    refine AllReadyH.cons (i := 13) (by simp only [List.getElem?_toArray, List.getElem?_cons_succ, List.getElem?_cons_zero]; rfl) (fun K hK => ?_) ?_
    · go_simp
      refine hK.out _ _ trivial (fun _ => ?_)
      clear hK K
      (try simp only [act_put, act_put_none, List.set_cons_zero, List.set_cons_succ])
      refine held_take (i := 14) (by simp only [List.getElem?_toArray, List.getElem?_cons_succ, List.getElem?_cons_zero]; rfl) (by decide +kernel) (by decide +kernel) (by decide +kernel) (by exact fun _ _ _ _ h => h) hS (by rfl) ?_
      apply Exists.intro
      refine ⟨fun w' hSw => ?_, ?_⟩
      · go_simp
        with_reducible rfl
      (try simp only [act_put, act_put_none, List.set_cons_zero, List.set_cons_succ])
      refine wpAnyH_ready (rs := [8]) (by decide +kernel) (by simp) ?_
      refine AllReadyH.cons (i := 8) (by simp only [List.getElem?_toArray, List.getElem?_cons_succ, List.getElem?_cons_zero]; rfl) (fun K hK => ?_) ?_
      · go_simp
        refine hK.out _ _ trivial (fun _ => ?_)
        clear hK K
        (try simp only [act_put, act_put_none, List.set_cons_zero, List.set_cons_succ])
        refine held_take (i := 9) (by simp only [List.getElem?_toArray, List.getElem?_cons_succ, List.getElem?_cons_zero]; rfl) (by decide +kernel) (by decide +kernel) (by decide +kernel) (by exact fun _ _ _ _ h => h) hS (by rfl) ?_
        apply Exists.intro
        refine ⟨fun w' hSw => ?_, ?_⟩
        · go_simp
          with_reducible rfl
        (try simp only [act_put, act_put_none, List.set_cons_zero, List.set_cons_succ])
        refine held_take (i := 15) (by simp only [List.getElem?_toArray, List.getElem?_cons_succ, List.getElem?_cons_zero]; rfl) (by decide +kernel) (by decide +kernel) (by decide +kernel) (by exact fun _ _ _ _ h => h) hS (by rfl) ?_
        apply Exists.intro
        refine ⟨fun w' hSw => ?_, ?_⟩
        · go_simp
          with_reducible rfl
        (try simp only [act_put, act_put_none, List.set_cons_zero, List.set_cons_succ])
        refine wpAnyH_ready (rs := [17]) (by decide +kernel) (by simp) ?_
        refine AllReadyH.cons (i := 17) (by simp only [List.getElem?_toArray, List.getElem?_cons_succ, List.getElem?_cons_zero]; rfl) (fun K hK => ?_) ?_
        · rw [if_pos (by rfl)]
          refine wp_app_full _ _ rfl A B l t c' rfl rfl HI1.out HA.out HT1.out hB hle ?_
          intro A' c2 w3 hi hc2 hn2 hb3 hx3
          have HX3 : Hid (Y A') := Lib.hid (hx3.elim (fun ⟨h0, h⟩ => hXY h0 _ (h ▸ K5.out)) (fun ⟨ht, x, hx, h⟩ => hx ▸ hX ht x (Nat.le_trans HBT.out.size h)))
          have hrow3 := rowKeep hb3 hrow
          have e1 : w3.cell? ⟨p, 1, none⟩ = some (.slice A l.length c) := by rw [cell_of_rowAt hrow3]; rfl
          have e3 : w3.frozen? ⟨p, 1, none⟩ = false := frozen_of_rowAt hrow3 1
          have HD3 := Lib.hid (HD1.out.dk.below hb3)
          have HBT3 := Lib.hid (HBT.out.then hb3)
          have HI := Lib.hid hi
          have HN := Lib.hid hn2
          have HROW := Lib.hid hrow3
          clear hb3 hi hn2 hrow3 hx3
          refine hK.out _ _ trivial (fun _ => ?_)
          clear hK K
          (try simp only [act_put, act_put_none, List.set_cons_zero, List.set_cons_succ])
          refine held_take (i := 18) (by simp only [List.getElem?_toArray, List.getElem?_cons_succ, List.getElem?_cons_zero]; rfl) (by decide +kernel) (by decide +kernel) (by decide +kernel) (by exact fun _ _ _ _ h => h) hS (by rfl) ?_
          apply Exists.intro
          refine ⟨fun w' hSw => ?_, ?_⟩
          · go_simp
            with_reducible rfl
          (try simp only [act_put, act_put_none, List.set_cons_zero, List.set_cons_succ])
          refine held_take (i := 19) (by simp only [List.getElem?_toArray, List.getElem?_cons_succ, List.getElem?_cons_zero]; rfl) (by decide +kernel) (by decide +kernel) (by decide +kernel) (by exact fun _ _ _ _ h => h) hS (by rfl) ?_
          apply Exists.intro
          refine ⟨fun w' hSw => ?_, ?_⟩
          · go_simp
            with_reducible rfl
          (try simp only [act_put, act_put_none, List.set_cons_zero, List.set_cons_succ])
          refine wpAnyH_ready (rs := [20]) (by decide +kernel) (by simp) ?_
          refine AllReadyH.cons (i := 20) (by simp only [List.getElem?_toArray, List.getElem?_cons_succ, List.getElem?_cons_zero]; rfl) (fun K hK => ?_) ?_
          · go_simp
            refine hK.out _ _ trivial (fun _ => ?_)
            clear hK K
            (try simp only [act_put, act_put_none, List.set_cons_zero, List.set_cons_succ])
            refine wpAnyH_done (by decide +kernel) ?_ _
            go_wp2_with fail
            go_ret
            exact ⟨rfl, ⟨A', c2, by rw [List.length_append]; exact row_one HROW.out, HI.out.bt HD3.out (Bt.setCell _ _ _ _), by first | exact hc2 | (rw [List.length_append]; exact hc2), HN.out, HX3.out⟩, HBT3.out.trans (Bt.setCell _ _ _ _)⟩
          exact AllReadyH.nil
        exact AllReadyH.nil
      exact AllReadyH.nil
    exact AllReadyH.nil
  refine AllReadyH.cons (i := 8) (by simp only [List.getElem?_toArray, List.getElem?_cons_succ, List.getElem?_cons_zero]; rfl) (fun K hK => ?_) ?_
  · go_simp
    refine hK.out _ _ trivial (fun _ => ?_)
    clear hK K
    (try simp only [act_put, act_put_none, List.set_cons_zero, List.set_cons_succ])
    refine held_take (i := 9) (by simp only [List.getElem?_toArray, List.getElem?_cons_succ, List.getElem?_cons_zero]; rfl) (by decide +kernel) (by decide +kernel) (by decide +kernel) (by exact fun _ _ _ _ h => h) hS (by rfl) ?_
    apply Exists.intro
    refine ⟨fun w' hSw => ?_, ?_⟩
    · go_simp
      with_reducible rfl
    (try simp only [act_put, act_put_none, List.set_cons_zero, List.set_cons_succ])
    refine wpAnyH_ready (rs := [4, 13]) (by decide +kernel) (by simp) ?_
    refine AllReadyH.cons (i := 4) (by simp only [List.getElem?_toArray, List.getElem?_cons_succ, List.getElem?_cons_zero]; rfl) (fun K hK => ?_) ?_
    · go_simp
      refine hK.out _ _ trivial (fun _ => ?_)
      clear hK K
      (try simp only [act_put, act_put_none, List.set_cons_zero, List.set_cons_succ])
      refine wpAnyH_ready (rs := [13]) (by decide +kernel) (by simp) ?_
      refine AllReadyH.cons (i := 13) (by simp only [List.getElem?_toArray, List.getElem?_cons_succ, List.getElem?_cons_zero]; rfl) (fun K hK => ?_) ?_
      · go_simp
        refine hK.out _ _ trivial (fun _ => ?_)
        clear hK K
        (try simp only [act_put, act_put_none, List.set_cons_zero, List.set_cons_succ])
        refine held_take (i := 14) (by simp only [List.getElem?_toArray, List.getElem?_cons_succ, List.getElem?_cons_zero]; rfl) (by decide +kernel) (by decide +kernel) (by decide +kernel) (by exact fun _ _ _ _ h => h) hS (by rfl) ?_
        apply Exists.intro
        refine ⟨fun w' hSw => ?_, ?_⟩
        · go_simp
          with_reducible rfl
        (try simp only [act_put, act_put_none, List.set_cons_zero, List.set_cons_succ])
        refine held_take (i := 15) (by simp only [List.getElem?_toArray, List.getElem?_cons_succ, List.getElem?_cons_zero]; rfl) (by decide +kernel) (by decide +kernel) (by decide +kernel) (by exact fun _ _ _ _ h => h) hS (by rfl) ?_
        apply Exists.intro
        refine ⟨fun w' hSw => ?_, ?_⟩
        · go_simp
          with_reducible rfl
        (try simp only [act_put, act_put_none, List.set_cons_zero, List.set_cons_succ])
        refine wpAnyH_ready (rs := [17]) (by decide +kernel) (by simp) ?_
        refine AllReadyH.cons (i := 17) (by simp only [List.getElem?_toArray, List.getElem?_cons_succ, List.getElem?_cons_zero]; rfl) (fun K hK => ?_) ?_
        · rw [if_pos (by rfl)]
          refine wp_app_full _ _ rfl A B l t c' rfl rfl HI1.out HA.out HT1.out hB hle ?_
          intro A' c2 w3 hi hc2 hn2 hb3 hx3
          have HX3 : Hid (Y A') := Lib.hid (hx3.elim (fun ⟨h0, h⟩ => hXY h0 _ (h ▸ K5.out)) (fun ⟨ht, x, hx, h⟩ => hx ▸ hX ht x (Nat.le_trans HBT.out.size h)))
          have hrow3 := rowKeep hb3 hrow
          have e1 : w3.cell? ⟨p, 1, none⟩ = some (.slice A l.length c) := by rw [cell_of_rowAt hrow3]; rfl
          have e3 : w3.frozen? ⟨p, 1, none⟩ = false := frozen_of_rowAt hrow3 1
          have HD3 := Lib.hid (HD1.out.dk.below hb3)
          have HBT3 := Lib.hid (HBT.out.then hb3)
          have HI := Lib.hid hi
          have HN := Lib.hid hn2
          have HROW := Lib.hid hrow3
          clear hb3 hi hn2 hrow3 hx3
          refine hK.out _ _ trivial (fun _ => ?_)
          clear hK K
          (try simp only [act_put, act_put_none, List.set_cons_zero, List.set_cons_succ])
          refine held_take (i := 18) (by simp only [List.getElem?_toArray, List.getElem?_cons_succ, List.getElem?_cons_zero]; rfl) (by decide +kernel) (by decide +kernel) (by decide +kernel) (by exact fun _ _ _ _ h => h) hS (by rfl) ?_
          apply Exists.intro
          refine ⟨fun w' hSw => ?_, ?_⟩
          · go_simp
            with_reducible rfl
          (try simp only [act_put, act_put_none, List.set_cons_zero, List.set_cons_succ])
          refine held_take (i := 19) (by simp only [List.getElem?_toArray, List.getElem?_cons_succ, List.getElem?_cons_zero]; rfl) (by decide +kernel) (by decide +kernel) (by decide +kernel) (by exact fun _ _ _ _ h => h) hS (by rfl) ?_
          apply Exists.intro
          refine ⟨fun w' hSw => ?_, ?_⟩
          · go_simp
            with_reducible rfl
          (try simp only [act_put, act_put_none, List.set_cons_zero, List.set_cons_succ])
          refine wpAnyH_ready (rs := [20]) (by decide +kernel) (by simp) ?_
          refine AllReadyH.cons (i := 20) (by simp only [List.getElem?_toArray, List.getElem?_cons_succ, List.getElem?_cons_zero]; rfl) (fun K hK => ?_) ?_
          · go_simp
            refine hK.out _ _ trivial (fun _ => ?_)
            clear hK K
            (try simp only [act_put, act_put_none, List.set_cons_zero, List.set_cons_succ])
            refine wpAnyH_done (by decide +kernel) ?_ _
            go_wp2_with fail
            go_ret
            exact ⟨rfl, ⟨A', c2, by rw [List.length_append]; exact row_one HROW.out, HI.out.bt HD3.out (Bt.setCell _ _ _ _), by first | exact hc2 | (rw [List.length_append]; exact hc2), HN.out, HX3.out⟩, HBT3.out.trans (Bt.setCell _ _ _ _)⟩
          exact AllReadyH.nil
        exact AllReadyH.nil
      exact AllReadyH.nil
    refine AllReadyH.cons (i := 13) (by simp only [List.getElem?_toArray, List.getElem?_cons_succ, List.getElem?_cons_zero]; rfl) (fun K hK => ?_) ?_
    · go_simp
      refine hK.out _ _ trivial (fun _ => ?_)
      clear hK K
      (try simp only [act_put, act_put_none, List.set_cons_zero, List.set_cons_succ])
      refine held_take (i := 14) (by simp only [List.getElem?_toArray, List.getElem?_cons_succ, List.getElem?_cons_zero]; rfl) (by decide +kernel) (by decide +kernel) (by decide +kernel) (by exact fun _ _ _ _ h => h) hS (by rfl) ?_
      apply Exists.intro
      refine ⟨fun w' hSw => ?_, ?_⟩
      · go_simp
        with_reducible rfl
      (try simp only [act_put, act_put_none, List.set_cons_zero, List.set_cons_succ])
      refine wpAnyH_ready (rs := [4]) (by decide +kernel) (by simp) ?_
      refine AllReadyH.cons (i := 4) (by simp only [List.getElem?_toArray, List.getElem?_cons_succ, List.getElem?_cons_zero]; rfl) (fun K hK => ?_) ?_
      · go_simp
        refine hK.out _ _ trivial (fun _ => ?_)
        clear hK K
        (try simp only [act_put, act_put_none, List.set_cons_zero, List.set_cons_succ])
        refine held_take (i := 15) (by simp only [List.getElem?_toArray, List.getElem?_cons_succ, List.getElem?_cons_zero]; rfl) (by decide +kernel) (by decide +kernel) (by decide +kernel) (by exact fun _ _ _ _ h => h) hS (by rfl) ?_
        apply Exists.intro
        refine ⟨fun w' hSw => ?_, ?_⟩
        · go_simp
          with_reducible rfl
        (try simp only [act_put, act_put_none, List.set_cons_zero, List.set_cons_succ])
        refine wpAnyH_ready (rs := [17]) (by decide +kernel) (by simp) ?_
        refine AllReadyH.cons (i := 17) (by simp only [List.getElem?_toArray, List.getElem?_cons_succ, List.getElem?_cons_zero]; rfl) (fun K hK => ?_) ?_
        · rw [if_pos (by rfl)]
          refine wp_app_full _ _ rfl A B l t c' rfl rfl HI1.out HA.out HT1.out hB hle ?_
          intro A' c2 w3 hi hc2 hn2 hb3 hx3
          have HX3 : Hid (Y A') := Lib.hid (hx3.elim (fun ⟨h0, h⟩ => hXY h0 _ (h ▸ K5.out)) (fun ⟨ht, x, hx, h⟩ => hx ▸ hX ht x (Nat.le_trans HBT.out.size h)))
          have hrow3 := rowKeep hb3 hrow
          have e1 : w3.cell? ⟨p, 1, none⟩ = some (.slice A l.length c) := by rw [cell_of_rowAt hrow3]; rfl
          have e3 : w3.frozen? ⟨p, 1, none⟩ = false := frozen_of_rowAt hrow3 1
          have HD3 := Lib.hid (HD1.out.dk.below hb3)
          have HBT3 := Lib.hid (HBT.out.then hb3)
          have HI := Lib.hid hi
          have HN := Lib.hid hn2
          have HROW := Lib.hid hrow3
          clear hb3 hi hn2 hrow3 hx3
          refine hK.out _ _ trivial (fun _ => ?_)
          clear hK K
          (try simp only [act_put, act_put_none, List.set_cons_zero, List.set_cons_succ])
          refine held_take (i := 18) (by simp only [List.getElem?_toArray, List.getElem?_cons_succ, List.getElem?_cons_zero]; rfl) (by decide +kernel) (by decide +kernel) (by decide +kernel) (by exact fun _ _ _ _ h => h) hS (by rfl) ?_
          apply Exists.intro
          refine ⟨fun w' hSw => ?_, ?_⟩
          · go_simp
            with_reducible rfl
          (try simp only [act_put, act_put_none, List.set_cons_zero, List.set_cons_succ])
          refine held_take (i := 19) (by simp only [List.getElem?_toArray, List.getElem?_cons_succ, List.getElem?_cons_zero]; rfl) (by decide +kernel) (by decide +kernel) (by decide +kernel) (by exact fun _ _ _ _ h => h) hS (by rfl) ?_
          apply Exists.intro
          refine ⟨fun w' hSw => ?_, ?_⟩
          · go_simp
            with_reducible rfl
          (try simp only [act_put, act_put_none, List.set_cons_zero, List.set_cons_succ])
          refine wpAnyH_ready (rs := [20]) (by decide +kernel) (by simp) ?_
          refine AllReadyH.cons (i := 20) (by simp only [List.getElem?_toArray, List.getElem?_cons_succ, List.getElem?_cons_zero]; rfl) (fun K hK => ?_) ?_
          · go_simp
            refine hK.out _ _ trivial (fun _ => ?_)
            clear hK K
            (try simp only [act_put, act_put_none, List.set_cons_zero, List.set_cons_succ])
            refine wpAnyH_done (by decide +kernel) ?_ _
            go_wp2_with fail
            go_ret
            exact ⟨rfl, ⟨A', c2, by rw [List.length_append]; exact row_one HROW.out, HI.out.bt HD3.out (Bt.setCell _ _ _ _), by first | exact hc2 | (rw [List.length_append]; exact hc2), HN.out, HX3.out⟩, HBT3.out.trans (Bt.setCell _ _ _ _)⟩
          exact AllReadyH.nil
        exact AllReadyH.nil
      exact AllReadyH.nil
    exact AllReadyH.nil
  refine AllReadyH.cons (i := 13) (by simp only [List.getElem?_toArray, List.getElem?_cons_succ, List.getElem?_cons_zero]; rfl) (fun K hK => ?_) ?_
  · go_simp
    refine hK.out _ _ trivial (fun _ => ?_)
    clear hK K
    (try simp only [act_put, act_put_none, List.set_cons_zero, List.set_cons_succ])
    refine held_take (i := 14) (by simp only [List.getElem?_toArray, List.getElem?_cons_succ, List.getElem?_cons_zero]; rfl) (by decide +kernel) (by decide +kernel) (by decide +kernel) (by exact fun _ _ _ _ h => h) hS (by rfl) ?_
    apply Exists.intro
    refine ⟨fun w' hSw => ?_, ?_⟩
    · go_simp
      with_reducible rfl
    (try simp only [act_put, act_put_none, List.set_cons_zero, List.set_cons_succ])
    refine wpAnyH_ready (rs := [4, 8]) (by decide +kernel) (by simp) ?_
    refine AllReadyH.cons (i := 4) (by simp only [List.getElem?_toArray, List.getElem?_cons_succ, List.getElem?_cons_zero]; rfl) (fun K hK => ?_) ?_
    · go_simp
      refine hK.out _ _ trivial (fun _ => ?_)
      clear hK K
      (try simp only [act_put, act_put_none, List.set_cons_zero, List.set_cons_succ])
      refine wpAnyH_ready (rs := [8]) (by decide +kernel) (by simp) ?_
      refine AllReadyH.cons (i := 8) (by simp only [List.getElem?_toArray, List.getElem?_cons_succ, List.getElem?_cons_zero]; rfl) (fun K hK => ?_) ?_
      · go_simp
        refine hK.out _ _ trivial (fun _ => ?_)
        clear hK K
        (try simp only [act_put, act_put_none, List.set_cons_zero, List.set_cons_succ])
        refine held_take (i := 9) (by simp only [List.getElem?_toArray, List.getElem?_cons_succ, List.getElem?_cons_zero]; rfl) (by decide +kernel) (by decide +kernel) (by decide +kernel) (by exact fun _ _ _ _ h => h) hS (by rfl) ?_
        apply Exists.intro
        refine ⟨fun w' hSw => ?_, ?_⟩
        · go_simp
          with_reducible rfl
        (try simp only [act_put, act_put_none, List.set_cons_zero, List.set_cons_succ])
        refine held_take (i := 15) (by simp only [List.getElem?_toArray, List.getElem?_cons_succ, List.getElem?_cons_zero]; rfl) (by decide +kernel) (by decide +kernel) (by decide +kernel) (by exact fun _ _ _ _ h => h) hS (by rfl) ?_
        apply Exists.intro
        refine ⟨fun w' hSw => ?_, ?_⟩
        · go_simp
          with_reducible rfl
        (try simp only [act_put, act_put_none, List.set_cons_zero, List.set_cons_succ])
        refine wpAnyH_ready (rs := [17]) (by decide +kernel) (by simp) ?_
        refine AllReadyH.cons (i := 17) (by simp only [List.getElem?_toArray, List.getElem?_cons_succ, List.getElem?_cons_zero]; rfl) (fun K hK => ?_) ?_
        · rw [if_pos (by rfl)]
          refine wp_app_full _ _ rfl A B l t c' rfl rfl HI1.out HA.out HT1.out hB hle ?_
          intro A' c2 w3 hi hc2 hn2 hb3 hx3
          have HX3 : Hid (Y A') := Lib.hid (hx3.elim (fun ⟨h0, h⟩ => hXY h0 _ (h ▸ K5.out)) (fun ⟨ht, x, hx, h⟩ => hx ▸ hX ht x (Nat.le_trans HBT.out.size h)))
          have hrow3 := rowKeep hb3 hrow
          have e1 : w3.cell? ⟨p, 1, none⟩ = some (.slice A l.length c) := by rw [cell_of_rowAt hrow3]; rfl
          have e3 : w3.frozen? ⟨p, 1, none⟩ = false := frozen_of_rowAt hrow3 1
          have HD3 := Lib.hid (HD1.out.dk.below hb3)
          have HBT3 := Lib.hid (HBT.out.then hb3)
          have HI := Lib.hid hi
          have HN := Lib.hid hn2
          have HROW := Lib.hid hrow3
          clear hb3 hi hn2 hrow3 hx3
          refine hK.out _ _ trivial (fun _ => ?_)
          clear hK K
          (try simp only [act_put, act_put_none, List.set_cons_zero, List.set_cons_succ])
          refine held_take (i := 18) (by simp only [List.getElem?_toArray, List.getElem?_cons_succ, List.getElem?_cons_zero]; rfl) (by decide +kernel) (by decide +kernel) (by decide +kernel) (by exact fun _ _ _ _ h => h) hS (by rfl) ?_
          apply Exists.intro
          refine ⟨fun w' hSw => ?_, ?_⟩
          · go_simp
            with_reducible rfl
          (try simp only [act_put, act_put_none, List.set_cons_zero, List.set_cons_succ])
          refine held_take (i := 19) (by simp only [List.getElem?_toArray, List.getElem?_cons_succ, List.getElem?_cons_zero]; rfl) (by decide +kernel) (by decide +kernel) (by decide +kernel) (by exact fun _ _ _ _ h => h) hS (by rfl) ?_
          apply Exists.intro
          refine ⟨fun w' hSw => ?_, ?_⟩
          · go_simp
            with_reducible rfl
          (try simp only [act_put, act_put_none, List.set_cons_zero, List.set_cons_succ])
          refine wpAnyH_ready (rs := [20]) (by decide +kernel) (by simp) ?_
          refine AllReadyH.cons (i := 20) (by simp only [List.getElem?_toArray, List.getElem?_cons_succ, List.getElem?_cons_zero]; rfl) (fun K hK => ?_) ?_
          · go_simp
            refine hK.out _ _ trivial (fun _ => ?_)
            clear hK K
            (try simp only [act_put, act_put_none, List.set_cons_zero, List.set_cons_succ])
            refine wpAnyH_done (by decide +kernel) ?_ _
            go_wp2_with fail
            go_ret
            exact ⟨rfl, ⟨A', c2, by rw [List.length_append]; exact row_one HROW.out, HI.out.bt HD3.out (Bt.setCell _ _ _ _), by first | exact hc2 | (rw [List.length_append]; exact hc2), HN.out, HX3.out⟩, HBT3.out.trans (Bt.setCell _ _ _ _)⟩
          exact AllReadyH.nil
        exact AllReadyH.nil
      exact AllReadyH.nil
    refine AllReadyH.cons (i := 8) (by simp only [List.getElem?_toArray, List.getElem?_cons_succ, List.getElem?_cons_zero]; rfl) (fun K hK => ?_) ?_
    · go_simp
      refine hK.out _ _ trivial (fun _ => ?_)
      clear hK K
      (try simp only [act_put, act_put_none, List.set_cons_zero, List.set_cons_succ])
      refine held_take (i := 9) (by simp only [List.getElem?_toArray, List.getElem?_cons_succ, List.getElem?_cons_zero]; rfl) (by decide +kernel) (by decide +kernel) (by decide +kernel) (by exact fun _ _ _ _ h => h) hS (by rfl) ?_
      apply Exists.intro
      refine ⟨fun w' hSw => ?_, ?_⟩
      · go_simp
        with_reducible rfl
      (try simp only [act_put, act_put_none, List.set_cons_zero, List.set_cons_succ])
      refine wpAnyH_ready (rs := [4]) (by decide +kernel) (by simp) ?_
      refine AllReadyH.cons (i := 4) (by simp only [List.getElem?_toArray, List.getElem?_cons_succ, List.getElem?_cons_zero]; rfl) (fun K hK => ?_) ?_
      · go_simp
        refine hK.out _ _ trivial (fun _ => ?_)
        clear hK K
        (try simp only [act_put, act_put_none, List.set_cons_zero, List.set_cons_succ])
        refine held_take (i := 15) (by simp only [List.getElem?_toArray, List.getElem?_cons_succ, List.getElem?_cons_zero]; rfl) (by decide +kernel) (by decide +kernel) (by decide +kernel) (by exact fun _ _ _ _ h => h) hS (by rfl) ?_
        apply Exists.intro
        refine ⟨fun w' hSw => ?_, ?_⟩
        · go_simp
          with_reducible rfl
        (try simp only [act_put, act_put_none, List.set_cons_zero, List.set_cons_succ])
        refine wpAnyH_ready (rs := [17]) (by decide +kernel) (by simp) ?_
        refine AllReadyH.cons (i := 17) (by simp only [List.getElem?_toArray, List.getElem?_cons_succ, List.getElem?_cons_zero]; rfl) (fun K hK => ?_) ?_
        · rw [if_pos (by rfl)]
          refine wp_app_full _ _ rfl A B l t c' rfl rfl HI1.out HA.out HT1.out hB hle ?_
          intro A' c2 w3 hi hc2 hn2 hb3 hx3
          have HX3 : Hid (Y A') := Lib.hid (hx3.elim (fun ⟨h0, h⟩ => hXY h0 _ (h ▸ K5.out)) (fun ⟨ht, x, hx, h⟩ => hx ▸ hX ht x (Nat.le_trans HBT.out.size h)))
          have hrow3 := rowKeep hb3 hrow
          have e1 : w3.cell? ⟨p, 1, none⟩ = some (.slice A l.length c) := by rw [cell_of_rowAt hrow3]; rfl
          have e3 : w3.frozen? ⟨p, 1, none⟩ = false := frozen_of_rowAt hrow3 1
          have HD3 := Lib.hid (HD1.out.dk.below hb3)
          have HBT3 := Lib.hid (HBT.out.then hb3)
          have HI := Lib.hid hi
          have HN := Lib.hid hn2
          have HROW := Lib.hid hrow3
          clear hb3 hi hn2 hrow3 hx3
          refine hK.out _ _ trivial (fun _ => ?_)
          clear hK K
          (try simp only [act_put, act_put_none, List.set_cons_zero, List.set_cons_succ])
          refine held_take (i := 18) (by simp only [List.getElem?_toArray, List.getElem?_cons_succ, List.getElem?_cons_zero]; rfl) (by decide +kernel) (by decide +kernel) (by decide +kernel) (by exact fun _ _ _ _ h => h) hS (by rfl) ?_
          apply Exists.intro
          refine ⟨fun w' hSw => ?_, ?_⟩
          · go_simp
            with_reducible rfl
          (try simp only [act_put, act_put_none, List.set_cons_zero, List.set_cons_succ])
          refine held_take (i := 19) (by simp only [List.getElem?_toArray, List.getElem?_cons_succ, List.getElem?_cons_zero]; rfl) (by decide +kernel) (by decide +kernel) (by decide +kernel) (by exact fun _ _ _ _ h => h) hS (by rfl) ?_
          apply Exists.intro
          refine ⟨fun w' hSw => ?_, ?_⟩
          · go_simp
            with_reducible rfl
          (try simp only [act_put, act_put_none, List.set_cons_zero, List.set_cons_succ])
          refine wpAnyH_ready (rs := [20]) (by decide +kernel) (by simp) ?_
          refine AllReadyH.cons (i := 20) (by simp only [List.getElem?_toArray, List.getElem?_cons_succ, List.getElem?_cons_zero]; rfl) (fun K hK => ?_) ?_
          · go_simp
            refine hK.out _ _ trivial (fun _ => ?_)
            clear hK K
            (try simp only [act_put, act_put_none, List.set_cons_zero, List.set_cons_succ])
            refine wpAnyH_done (by decide +kernel) ?_ _
            go_wp2_with fail
            go_ret
            exact ⟨rfl, ⟨A', c2, by rw [List.length_append]; exact row_one HROW.out, HI.out.bt HD3.out (Bt.setCell _ _ _ _), by first | exact hc2 | (rw [List.length_append]; exact hc2), HN.out, HX3.out⟩, HBT3.out.trans (Bt.setCell _ _ _ _)⟩
          exact AllReadyH.nil
        exact AllReadyH.nil
      exact AllReadyH.nil
    exact AllReadyH.nil
  exact AllReadyH.nil
theorem dappend_okX {X : Option Addr → Prop} {w : World} {p : Nat} {s f : Int} {l t : List UInt8} {B : Option Addr} {c' : Nat} (h : DKX X w p s l f) (hX : t ≠ [] → ∀ x : Addr, w.heap.size ≤ x.block → X (some x)) (h0 : 0 ≤ s) (h1 : s ≤ 1099511627776) (h2 : l.length ≤ 1099511627776) (ht : IsBy w B t) (hB : B = none → c' = 0) (hn : (t.length : Int) ≤ s - l.length) :
    Calls Tryd.prog 13 #[.pointer (some ⟨p, 0, none⟩), .slice B t.length c'] w fun e w' => e = .returned (.int .i64 0) ∧ DKX X w' p s (l ++ t) f ∧ Bt p w w' :=
  dappend_okY h (fun _ _ h => h) hX h0 h1 h2 ht hB hn
theorem dappend_ok {w : World} {p : Nat} {s f : Int} {l t : List UInt8} {B : Option Addr} {c' : Nat} (h : DK w p s l f) (h0 : 0 ≤ s) (h1 : s ≤ 1099511627776) (h2 : l.length ≤ 1099511627776) (ht : IsBy w B t) (hB : B = none → c' = 0) (hn : (t.length : Int) ≤ s - l.length) :
    Calls Tryd.prog 13 #[.pointer (some ⟨p, 0, none⟩), .slice B t.length c'] w fun e w' => e = .returned (.int .i64 0) ∧ DK w' p s (l ++ t) f ∧ Bt p w w' :=
  (dappend_okX h.dkx (fun _ _ _ => trivial) h0 h1 h2 ht hB hn).mono fun _ _ ⟨a, b, c⟩ => ⟨a, b.dk, c⟩
theorem dappend_is {w : World} {p : Nat} {s f : Int} {l t : List UInt8} {B : Option Addr} {c' : Nat} (h : DK w p s l f) (h0 : 0 ≤ s) (h1 : s ≤ 1099511627776) (h2 : l.length ≤ 1099511627776) (ht : IsBy w B t) (hB : B = none → c' = 0) (hn : (t.length : Int) ≤ s - l.length) {n : Nat} (hl : t.length = n) :
    Calls Tryd.prog 13 #[.pointer (some ⟨p, 0, none⟩), .slice B n c'] w fun e w' => e = .returned (.int .i64 0) ∧ DK w' p s (l ++ t) f ∧ Bt p w w' := by
  subst hl
  exact dappend_ok h h0 h1 h2 ht hB hn
def maxI (a b : Int) : Int := if a < b then b else a
/-- So many sectors, or bytes, at most. -/
def bndI (n : Int) : Int := minI (maxI n 0) 1048576
theorem bnd_range (n : Int) : 0 ≤ bndI n ∧ bndI n ≤ 1048576 := by unfold bndI minI maxI; split <;> split <;> omega
theorem bound_any (n : Int) (w : World) : Calls Tryd.prog 39 #[.int .i64 n] w fun e w' => e = .returned (.int .i64 (bndI n)) ∧ w = w' := by
  have hb : bndI n = bndI n := rfl
  unfold bndI minI maxI at hb
  go_enter Tryd.func39, Tryd.ntmps39
  go_wp2_with fail
  all_goals go_ret
  all_goals exact ⟨congrArg (fun x => Ending.returned (Value.int .i64 x)) (by unfold bndI minI maxI; split <;> split <;> omega), rfl⟩
/-- Where a crash leaves the end. -/
def crashI (n f a b : Int) : Int := minI (maxI f (64 * (f / 64 + bndI a)) + bndI b) n
theorem crash_none (a b : Int) (w : World) : Calls Tryd.prog 23 #[.pointer none, .int .i64 a, .int .i64 b] w fun e w' => e = .returned (.tuple #[]) ∧ w = w' := by
  go_enter Tryd.func23, Tryd.ntmps23
  go_wp2_with fail
  refine bodyPost_ret (v := .tuple #[]) (by simp [results, show Tryd.f23.results = #[] from rfl]) rfl ?_
  exact ⟨rfl, rfl⟩
set_option maxHeartbeats 2000000 in
theorem dcrash_anyX {X : Option Addr → Prop} {w : World} {p f : Nat} {s : Int} {l : List UInt8} (a b : Int) (h : DKX X w p s l f) (hf : f ≤ l.length) (hlen : l.length ≤ 1099511627776) :
    Calls Tryd.prog 23 #[.pointer (some ⟨p, 0, none⟩), .int .i64 a, .int .i64 b] w fun e w' => e = .returned (.tuple #[]) ∧ DKX X w' p s (l.take (crashI l.length f a b).toNat) (crashI l.length f a b) ∧ Bt p w w' := by
  have HD := Lib.hid h.dk
  have hp := h.dk.lt
  obtain ⟨A, c, g1, g2, g3, g4, g5⟩ := h
  have d1 : w.cell? ⟨p, 1, none⟩ = some (.slice A l.length c) := by rw [cell_of_rowAt g1]; rfl
  have d2 : w.cell? ⟨p, 2, none⟩ = some (.int .i64 f) := by rw [cell_of_rowAt g1]; rfl
  have G1 := Lib.hid g1
  have G2 := Lib.hid g2
  obtain ⟨ba1, ba2⟩ := bnd_range a
  obtain ⟨bb1, bb2⟩ := bnd_range b
  have hcr : crashI l.length f a b = crashI l.length f a b := rfl
  unfold crashI at hcr
  have C1 := Lib.hid (bound_any a)
  have C2 := Lib.hid (bound_any b)
  obtain ⟨na, hna⟩ := Int.eq_ofNat_of_zero_le ba1
  obtain ⟨nb, hnb⟩ := Int.eq_ofNat_of_zero_le bb1
  rw [hna] at C1
  rw [hnb] at C2
  have HNA := Lib.hid hna
  have HNB := Lib.hid hnb
  have hna2 : na ≤ 1048576 := by omega
  have hnb2 : nb ≤ 1048576 := by omega
  clear g1 g2 hcr ba1 ba2 bb1 bb2 hna hnb
  go_enter Tryd.func23, Tryd.ntmps23
  go_upto_region 2 with fail
  refine region_quiet (by kernel_rfl) (by kernel_rfl) ?_
  repeat (go_big_quiet_step ((go_at_call 39; exact quiet_call_same (C1.out _))))
  refine wpQuiet_nil ?_
  intro w4 hb4
  obtain ⟨m1, hm1⟩ : ∃ m1 : Nat, (m1 : Int) = maxI f (64 * ((f : Int) / 64 + na)) := by
    obtain ⟨m, hm⟩ := Int.eq_ofNat_of_zero_le (show 0 ≤ maxI f (64 * ((f : Int) / 64 + na)) by unfold maxI; split <;> omega)
    exact ⟨m, hm.symm⟩
  have hm1b : m1 ≤ 9223372036854 := by unfold maxI at hm1; split at hm1 <;> omega
  rw [show (if (f : Int) < 64 * ((f : Int) / 64 + na) then 64 * ((f : Int) / 64 + na) else (f : Int)) = (m1 : Int) from hm1.symm]
  obtain ⟨k, hk⟩ : ∃ k : Nat, (k : Int) = minI (m1 + nb) l.length := by
    obtain ⟨m, hm⟩ := Int.eq_ofNat_of_zero_le (show 0 ≤ minI (m1 + nb) l.length by unfold minI; split <;> omega)
    exact ⟨m, hm.symm⟩
  have hkl : k ≤ l.length := by unfold minI at hk; split at hk <;> omega
  have HCR : Hid (crashI l.length f a b = (k : Int)) := Lib.hid (by rw [crashI, HNA.out, HNB.out, ← hm1, hk])
  have HK := Lib.hid hk
  have HM1 := Lib.hid hm1
  have e1 : w4.cell? ⟨p, 1, none⟩ = some (.slice A l.length c) := (hb4.cell (p := ⟨p, 1, none⟩) hp).trans d1
  have G4 := Lib.hid (rowKeep hb4 G1.out)
  have hp4 := rowAt_lt G4.out
  have HB4 := Lib.hid hb4
  clear hb4 hk hm1 d1 d2
  go_upto_region 3 with fail
  refine region_quiet (by kernel_rfl) (by kernel_rfl) ?_
  repeat (go_big_quiet_step ((go_at_call 39; exact quiet_call_same (C2.out _))))
  refine wpQuiet_nil ?_
  intro w5 hb5
  rw [show (if (l.length : Int) < (m1 : Int) + nb then (l.length : Int) else (m1 : Int) + nb) = (k : Int) from HK.out.symm]
  have hrow := rowKeep hb5 G4.out
  have j1 : w5.cell? ⟨p, 1, none⟩ = some (.slice A l.length c) := by rw [cell_of_rowAt hrow]; rfl
  have j3 : w5.frozen? ⟨p, 1, none⟩ = false := frozen_of_rowAt hrow 1
  have hlk : (l.take k).length = k := by rw [List.length_take]; omega
  have hkc : k ≤ c := by omega
  have j5 : (w5.setCell ⟨p, 1, none⟩ (.slice A k k)).cell? ⟨p, 2, none⟩ = some (.int .i64 f) := by rw [cell_of_rowAt (row_one hrow)]; rfl
  have j6 : (w5.setCell ⟨p, 1, none⟩ (.slice A k k)).frozen? ⟨p, 2, none⟩ = false := frozen_of_rowAt (row_one hrow) 2
  have HROW := Lib.hid hrow
  have HLK := Lib.hid hlk
  have HB5 := Lib.hid ((Bt.of (p := p) HB4.out).then hb5)
  have HI5 := Lib.hid ((G2.out.below HB4.out).below hb5)
  have HD5 := Lib.hid ((HD.out.below HB4.out).below hb5)
  clear hb5 hrow hlk e1
  go_wp2_with fail
  refine bodyPost_end (v := .tuple #[]) (by simp [results, show Tryd.f23.results = #[] from rfl]) rfl ?_
  rw [HCR.out]
  exact ⟨rfl, ⟨A, k, by rw [row_two HROW.out, Int.toNat_natCast, HLK.out], by rw [Int.toNat_natCast]; exact (HI5.out.bt HD5.out (bt_two p w5 _ _)).take k, by rw [Int.toNat_natCast, HLK.out]; exact Nat.le_refl _, fun h => by have := g4 h; omega, g5⟩, HB5.out.trans (bt_two p w5 _ _)⟩
theorem dcrash_any {w : World} {p f : Nat} {s : Int} {l : List UInt8} (a b : Int) (h : DK w p s l f) (hf : f ≤ l.length) (hlen : l.length ≤ 1099511627776) :
    Calls Tryd.prog 23 #[.pointer (some ⟨p, 0, none⟩), .int .i64 a, .int .i64 b] w fun e w' => e = .returned (.tuple #[]) ∧ DK w' p s (l.take (crashI l.length f a b).toNat) (crashI l.length f a b) ∧ Bt p w w' :=
  (dcrash_anyX a b h.dkx hf hlen).mono fun _ _ ⟨a, b, c⟩ => ⟨a, b.dk, c⟩
end Go.Proofs.YtfnbcafilbafgaaDoor
