/-
  Layer 11 (disk): one step.
-/
import Derived.Test.YtfnbcafilbafgaaDoes
namespace Go.Proofs.Ytfnbcafilbafgaa
open Go.RowKit
set_option linter.unusedSimpArgs false
attribute [local go_sem] rowCells rowAt_alloc rowAt_drew rowAt_setRow rowAt_setCell setRow_alloc load_ref store_ref cut3 splice3
attribute [local go_sem ↓] xstore_ref xload_ref xalloc_ref
/-- What Cut, Append and Swap tell. -/
def cutE (l : List UInt8) (N : Int) : Int := if N < 0 ∨ (l.length : Int) < N then 1 else 0
def appE (s : Int) (l t : List UInt8) : Int := if s < l.length + t.length then 7 else 0
def swapE (s : Int) (t : List UInt8) : Int := if s < t.length then 7 else 0
theorem dcut_any {w : World} {p f : Nat} {s N M e0 : Int} {l t L1 : List UInt8} {F1 : Nat} (h : DK w p s l f) (he : cutE l N = e0) (e1 : stepL s l f 2 N M t = L1) (e2 : stepF s l f 2 N M t = F1) :
    Calls Try.prog 20 #[.pointer (some ⟨p, 0, none⟩), .int .i64 N] w fun e w' => e = .returned (.int .i64 e0) ∧ DK w' p s L1 F1 ∧ Bt p w w' := by
  unfold cutE at he
  by_cases hb : N < 0 ∨ (l.length : Int) < N
  · rw [if_pos hb] at he
    have x1 : L1 = l := e1.symm.trans (by simp [stepL, hb])
    have x2 : F1 = f := e2.symm.trans (by simp [stepF, hb])
    subst he x1 x2
    exact (dcut_bad h hb).mono fun e w' ⟨a, b⟩ => ⟨a, b ▸ h, b ▸ Bt.refl _ _⟩
  · rw [if_neg hb] at he
    obtain ⟨k, rfl⟩ := Int.eq_ofNat_of_zero_le (show 0 ≤ N by omega)
    have x1 : L1 = l.take k := e1.symm.trans (by simp [stepL]; omega)
    have x2 : (F1 : Int) = minI f k := by
      rw [← e2]
      have : 0 ≤ minI (f : Int) (k : Int) := by unfold minI; split <;> omega
      have e : stepF s l f 2 (k : Int) M t = (minI f k).toNat := by
        unfold stepF
        rw [if_neg (by decide), if_neg (by decide), if_pos rfl, if_neg hb]
      rw [e]
      omega
    subst he x1
    rw [x2]
    exact dcut_ok h k (by omega)
theorem dapp_any {w : World} {p f : Nat} {s N M e0 : Int} {l t L1 : List UInt8} {F1 : Nat} {B : Option Addr} {ct : Nat} (h : DK w p s l f) (hs0 : 0 ≤ s) (hs1 : s ≤ 1048576) (hl : (l.length : Int) ≤ s) (ht : IsBy w B t) (htn : B = none → ct = 0) (he : appE s l t = e0) (e1 : stepL s l f 0 N M t = L1) (e2 : stepF s l f 0 N M t = F1) :
    Calls Try.prog 11 #[.pointer (some ⟨p, 0, none⟩), .slice B t.length ct] w fun e w' => e = .returned (.int .i64 e0) ∧ DK w' p s L1 F1 ∧ Bt p w w' := by
  unfold appE at he
  have x2 : F1 = f := e2.symm.trans (by simp [stepF])
  subst x2
  by_cases hb : s < l.length + t.length
  · rw [if_pos hb] at he
    have x1 : L1 = l := e1.symm.trans (by simp [stepL]; omega)
    subst he x1
    exact (dappend_full h hs0 (by omega) (by omega) (by omega)).mono fun e w' ⟨a, b⟩ => ⟨a, h.below b, Bt.of b⟩
  · rw [if_neg hb] at he
    have x1 : L1 = l ++ t := e1.symm.trans (by simp [stepL]; omega)
    subst he x1
    exact dappend_ok h hs0 (by omega) (by omega) ht htn (by omega)
theorem dswap_any {w : World} {p f : Nat} {s N M e0 : Int} {l t L1 : List UInt8} {F1 : Nat} {B : Option Addr} {ct : Nat} (h : DK w p s l f) (ht4 : t.length ≤ 400) (ht : IsBy w B t) (htc : t.length ≤ ct) (he : swapE s t = e0) (e1 : stepL s l f 3 N M t = L1) (e2 : stepF s l f 3 N M t = F1) :
    Calls Try.prog 19 #[.pointer (some ⟨p, 0, none⟩), .slice B t.length ct] w fun e w' => e = .returned (.int .i64 e0) ∧ DK w' p s L1 F1 ∧ Bt p w w' := by
  unfold swapE at he
  by_cases hb : s < t.length
  · rw [if_pos hb] at he
    have x1 : L1 = l := e1.symm.trans (by simp [stepL]; omega)
    have x2 : F1 = f := e2.symm.trans (by simp [stepF]; omega)
    subst he x1 x2
    exact (dswap_full h hb).mono fun e w' ⟨a, b⟩ => ⟨a, b ▸ h, b ▸ Bt.refl _ _⟩
  · rw [if_neg hb] at he
    have x1 : L1 = t := e1.symm.trans (by simp [stepL]; omega)
    have x2 : F1 = t.length := e2.symm.trans (by simp [stepF]; omega)
    subst he x1 x2
    exact dswap_ok h ht htc (by omega) (by omega)
theorem crash_range {n f : Nat} (a b : Int) : 0 ≤ crashI n f a b ∧ crashI n f a b ≤ n := by
  obtain ⟨h1, h2⟩ := bnd_range a
  obtain ⟨h3, h4⟩ := bnd_range b
  unfold crashI minI maxI
  (repeat' split) <;> omega
set_option maxRecDepth 10000 in
set_option maxHeartbeats 16000000 in
theorem does_any {w : World} {p f fR : Nat} {s V N M : Int} {l lR t L1 R1 : List UInt8} {F1 G1 : Nat} {AR B : Option Addr} {cR ct : Nat} (h : DK w p s l f) (hR : IsBy w AR lR) (hRc : lR.length ≤ cR) (hRn : AR = none → cR = 0) (ht : IsBy w B t) (htc : t.length ≤ ct) (htn : B = none → ct = 0)
    (hs0 : 0 ≤ s) (hs1 : s ≤ 1048576) (hl : (l.length : Int) ≤ s) (hlR : (lR.length : Int) ≤ s) (hf : f ≤ l.length) (hfR : fR ≤ lR.length) (ht4 : t.length ≤ 400) (e1 : stepL s l f V N M t = L1) (e2 : stepF s l f V N M t = F1) (e3 : stepL s lR fR V N M t = R1) (e4 : stepF s lR fR V N M t = G1) :
    Calls Try.prog 15 #[.pointer (some ⟨p, 0, none⟩), .agg #[.int .i64 s, .int .i64 fR, .slice AR lR.length cR], .agg #[.int .i64 V, .int .i64 N, .int .i64 M, .slice B t.length ct]] w fun e w' =>
      ∃ A' c' b, e = .returned (.tuple #[.agg #[.int .i64 s, .int .i64 G1, .slice A' R1.length c'], .bool b]) ∧ IsBy w' A' R1 ∧ R1.length ≤ c' ∧ (A' = none → c' = 0) ∧ DK w' p s L1 F1 ∧ Bt p w w' ∧ (l = lR → f = fR → b = true) := by
  have HD := Lib.hid h
  have HR := Lib.hid hR
  have HT := Lib.hid ht
  have HRN := Lib.hid hRn
  have HTN := Lib.hid htn
  have hp := h.lt
  have E1 := Lib.hid e1
  have E2 := Lib.hid e2
  have E3 := Lib.hid e3
  have E4 := Lib.hid e4
  clear h hR hRn ht htn e1 e2 e3 e4
  go_enter Try.func15, Try.ntmps15
  go_upto_region 1 with fail
  have r4 : rowAt (((w.alloc (.cells #[.int .i64 s, .int .i64 fR, .slice AR lR.length cR] 35)).alloc (.cells #[.int .i64 V, .int .i64 N, .int .i64 M, .slice B t.length ct] 37)).alloc (.cells #[.int .i64 0, .int .i64 0, .slice none 0 0] 35)) w.heap.size = some (#[.int .i64 s, .int .i64 fR, .slice AR lR.length cR], 35) := by simp [rowAt_alloc] <;> omega
  have r5 : rowAt (((w.alloc (.cells #[.int .i64 s, .int .i64 fR, .slice AR lR.length cR] 35)).alloc (.cells #[.int .i64 V, .int .i64 N, .int .i64 M, .slice B t.length ct] 37)).alloc (.cells #[.int .i64 0, .int .i64 0, .slice none 0 0] 35)) (w.heap.size + 1) = some (#[.int .i64 V, .int .i64 N, .int .i64 M, .slice B t.length ct], 37) := by simp [rowAt_alloc] <;> omega
  have r6 : rowAt (((w.alloc (.cells #[.int .i64 s, .int .i64 fR, .slice AR lR.length cR] 35)).alloc (.cells #[.int .i64 V, .int .i64 N, .int .i64 M, .slice B t.length ct] 37)).alloc (.cells #[.int .i64 0, .int .i64 0, .slice none 0 0] 35)) (w.heap.size + 1 + 1) = some (#[.int .i64 0, .int .i64 0, .slice none 0 0], 35) := by simp [rowAt_alloc]
  have hbw : Below w.heap.size w (((w.alloc (.cells #[.int .i64 s, .int .i64 fR, .slice AR lR.length cR] 35)).alloc (.cells #[.int .i64 V, .int .i64 N, .int .i64 M, .slice B t.length ct] 37)).alloc (.cells #[.int .i64 0, .int .i64 0, .slice none 0 0] 35)) := (((Below.refl _ _).alloc (Nat.le_refl _) _).alloc (by simp) _).alloc (by simp; omega) _
  generalize (((w.alloc (.cells #[.int .i64 s, .int .i64 fR, .slice AR lR.length cR] 35)).alloc (.cells #[.int .i64 V, .int .i64 N, .int .i64 M, .slice B t.length ct] 37)).alloc (.cells #[.int .i64 0, .int .i64 0, .slice none 0 0] 35)) = W at *
  have HBW := Lib.hid hbw
  have HDW := Lib.hid (HD.out.below hbw)
  have HRW := Lib.hid (HR.out.below hbw)
  have HTW := Lib.hid (HT.out.below hbw)
  have hn4 : w.heap.size ≠ p := by omega
  have hn5 : w.heap.size + 1 ≠ p := by omega
  have hn6 : w.heap.size + 1 + 1 ≠ p := by omega
  have h64 : w.heap.size + 1 + 1 ≠ w.heap.size := by omega
  have h46 : w.heap.size ≠ w.heap.size + 1 + 1 := by omega
  have hge6 : w.heap.size ≤ w.heap.size + 1 + 1 := by omega
  have l4 := rowAt_lt r4
  have l5 := rowAt_lt r5
  have l6 := rowAt_lt r6
  clear hbw HD HR HT
  have v0 : W.cell? ⟨w.heap.size + 1, 0, none⟩ = some (.int .i64 V) := by rw [cell_of_rowAt r5]; rfl
  have v1 : W.cell? ⟨w.heap.size + 1, 1, none⟩ = some (.int .i64 N) := by rw [cell_of_rowAt r5]; rfl
  have v2 : W.cell? ⟨w.heap.size + 1, 2, none⟩ = some (.int .i64 M) := by rw [cell_of_rowAt r5]; rfl
  have v3 : W.cell? ⟨w.heap.size + 1, 3, none⟩ = some (.slice B t.length ct) := by rw [cell_of_rowAt r5]; rfl
  have q0 : W.cell? ⟨w.heap.size, 0, none⟩ = some (.int .i64 s) := by rw [cell_of_rowAt r4]; rfl
  have q1 : W.cell? ⟨w.heap.size, 1, none⟩ = some (.int .i64 fR) := by rw [cell_of_rowAt r4]; rfl
  have q2 : W.cell? ⟨w.heap.size, 2, none⟩ = some (.slice AR lR.length cR) := by rw [cell_of_rowAt r4]; rfl
  by_cases hv0 : V = 0
  · subst hv0
    obtain ⟨e0, he0⟩ : ∃ e0, appE s l t = e0 := ⟨_, rfl⟩
    have HE0 := Lib.hid he0
    clear he0
    by_cases hnr : s < lR.length + t.length
    · have x3 : R1 = lR := E3.out.symm.trans (by simp [stepL]; omega)
      subst x3
      have HC : Hid (R1.length ≤ cR) := Lib.hid hRc
      have HN := Lib.hid HRN.out
      have x4 : G1 = fR := E4.out.symm.trans (by simp [stepF])
      have X4 := Lib.hid x4
      clear x4
      have hag : l = R1 → e0 = 7 := fun h => by rw [← HE0.out, h, appE]; first | rw [if_pos (by omega)] | rw [if_neg (by omega)]
      have HAG := Lib.hid hag
      clear hag
      go_wp2_with fail
      refine (rapp_full (by omega) ht4 (by omega)).mono ?_
      rintro e w1 ⟨rfl, hb2⟩
      have HI1 := Lib.hid (HRW.out.below hb2)
      have r4x := rowKeep hb2 r4
      have r5x := rowKeep hb2 r5
      have r6x := rowKeep hb2 r6
      have HD1 := Lib.hid (HDW.out.below hb2)
      have HT1 := Lib.hid (HTW.out.below hb2)
      have HB1 := Lib.hid ((Bt.of (p := p) HBW.out).then hb2)
      have hge1 : w.heap.size + 1 + 1 < w1.heap.size := rowAt_lt r6x
      clear hb2
      clear v0 v1 v2 v3 q0 q1 q2 r4 r5 r6
      go_upto_region 4 with fail
      have hb3 : Below w1.heap.size w1 (w1.alloc (.cells #[.int .i64 s, .int .i64 fR, .slice AR R1.length cR] 35)).drew := ((Below.refl _ _).alloc (Nat.le_refl _) _).drew
      have r8 : rowAt (w1.alloc (.cells #[.int .i64 s, .int .i64 fR, .slice AR R1.length cR] 35)).drew w1.heap.size = some (#[.int .i64 s, .int .i64 fR, .slice AR R1.length cR], 35) := by rw [rowAt_drew]; exact rowAt_alloc_at _ _ _ _ rfl
      have r5y := rowKeep hb3 r5x
      have r6y := rowKeep hb3 r6x
      have HD2 := Lib.hid (HD1.out.below hb3)
      have HT2 := Lib.hid (HT1.out.below hb3)
      have HI2 := Lib.hid (HI1.out.below hb3)
      have HB2 := Lib.hid (HB1.out.then hb3)
      have hn8 : w1.heap.size ≠ p := by omega
      have h86 : w1.heap.size ≠ w.heap.size + 1 + 1 := by omega
      have h56 : w.heap.size + 1 ≠ w.heap.size + 1 + 1 := by omega
      refine wp_region_held_drew (S := fun w' : World => rowAt w' w1.heap.size = some (#[.int .i64 s, .int .i64 fR, .slice AR R1.length cR], 35) ∧ rowAt w' (w.heap.size + 1) = some (#[.int .i64 0, .int .i64 N, .int .i64 M, .slice B t.length ct], 37)) (by kernel_rfl) ⟨r8, r5y⟩ (fun hS => ?_)
      clear hb3 r8 r5y r4x r5x r6x
      generalize (w1.alloc (.cells #[.int .i64 s, .int .i64 fR, .slice AR R1.length cR] 35)).drew = W1 at *
      refine held_take (i := 0) (by simp only [List.getElem?_toArray, List.getElem?_cons_succ, List.getElem?_cons_zero]; rfl) (by decide +kernel) (by decide +kernel) (by decide +kernel) (by exact fun _ _ _ _ h => h) hS (by rfl) ?_
      apply Exists.intro
      refine ⟨fun w' hSw => ?_, ?_⟩
      · obtain ⟨q1, q2⟩ := hSw
        go_simp
        with_reducible rfl
      (try simp only [act_put, act_put_none, List.set_cons_zero, List.set_cons_succ])
      refine held_take (i := 1) (by simp only [List.getElem?_toArray, List.getElem?_cons_succ, List.getElem?_cons_zero]; rfl) (by decide +kernel) (by decide +kernel) (by decide +kernel) (by exact fun _ _ _ _ h => h) hS (by rfl) ?_
      apply Exists.intro
      refine ⟨fun w' hSw => ?_, ?_⟩
      · go_simp
        with_reducible rfl
      (try simp only [act_put, act_put_none, List.set_cons_zero, List.set_cons_succ])
      refine held_take (i := 2) (by simp only [List.getElem?_toArray, List.getElem?_cons_succ, List.getElem?_cons_zero]; rfl) (by decide +kernel) (by decide +kernel) (by decide +kernel) (by exact fun _ _ _ _ h => h) hS (by rfl) ?_
      apply Exists.intro
      refine ⟨fun w' hSw => ?_, ?_⟩
      · go_simp
        with_reducible rfl
      (try simp only [act_put, act_put_none, List.set_cons_zero, List.set_cons_succ])
      refine held_take (i := 3) (by simp only [List.getElem?_toArray, List.getElem?_cons_succ, List.getElem?_cons_zero]; rfl) (by decide +kernel) (by decide +kernel) (by decide +kernel) (by exact fun _ _ _ _ h => h) hS (by rfl) ?_
      apply Exists.intro
      refine ⟨fun w' hSw => ?_, ?_⟩
      · obtain ⟨q1, q2⟩ := hSw
        have hc2 : w'.cell? ⟨w.heap.size + 1, 3, none⟩ = some (.slice B t.length ct) := by rw [cell_of_rowAt q2]; rfl
        go_simp
        with_reducible rfl
      (try simp only [act_put, act_put_none, List.set_cons_zero, List.set_cons_succ])
      refine held_take (i := 6) (by simp only [List.getElem?_toArray, List.getElem?_cons_succ, List.getElem?_cons_zero]; rfl) (by decide +kernel) (by decide +kernel) (by decide +kernel) (by exact fun _ _ _ _ h => h) hS (by rfl) ?_
      apply Exists.intro
      refine ⟨fun w' hSw => ?_, ?_⟩
      · go_simp
        with_reducible rfl
      (try simp only [act_put, act_put_none, List.set_cons_zero, List.set_cons_succ])
      refine wpAnyH_ready (rs := [4]) (by decide +kernel) (by simp) ?_
      refine AllReadyH.cons (i := 4) (by simp only [List.getElem?_toArray, List.getElem?_cons_succ, List.getElem?_cons_zero]; rfl) (fun K hK => ?_) ?_
      · go_simp
        go_at_call 11
        refine (dapp_any HD2.out hs0 hs1 hl HT2.out HTN.out HE0.out E1.out E2.out).mono ?_
        rintro e w3 ⟨rfl, hd, hb⟩
        have r6z := (hb.row (rowAt_lt r6y) hn6).trans r6y
        have HD3 := Lib.hid hd
        have HI3 := Lib.hid (HI2.out.bt HD2.out hb)
        have HB3 := Lib.hid (HB2.out.trans hb)
        have t1 := (hb.row (rowAt_lt hS.1) hn8).trans hS.1
        have t2 := (hb.row (rowAt_lt hS.2) hn5).trans hS.2
        clear hd hb r6y
        go_simp
        refine hK.out _ _ ⟨t1, t2⟩ (fun hS2 => ?_)
        clear hS hK K t1 t2
        have hS := hS2
        clear hS2
        (try simp only [act_put, act_put_none, List.set_cons_zero, List.set_cons_succ])
        refine held_take (i := 5) (by simp only [List.getElem?_toArray, List.getElem?_cons_succ, List.getElem?_cons_zero]; rfl) (by decide +kernel) (by decide +kernel) (by decide +kernel) (by exact fun _ _ _ _ h => h) hS (by rfl) ?_
        apply Exists.intro
        refine ⟨fun w' hSw => ?_, ?_⟩
        · go_simp
          with_reducible rfl
        (try simp only [act_put, act_put_none, List.set_cons_zero, List.set_cons_succ])
        refine held_take (i := 7) (by simp only [List.getElem?_toArray, List.getElem?_cons_succ, List.getElem?_cons_zero]; rfl) (by decide +kernel) (by decide +kernel) (by decide +kernel) (by exact fun _ _ _ _ h => h) hS (by rfl) ?_
        apply Exists.intro
        refine ⟨fun w' hSw => ?_, ?_⟩
        · go_simp
          with_reducible rfl
        (try simp only [act_put, act_put_none, List.set_cons_zero, List.set_cons_succ])
        refine wpAnyH_ready (rs := [8]) (by decide +kernel) (by simp) ?_
        refine AllReadyH.cons (i := 8) (by simp only [List.getElem?_toArray, List.getElem?_cons_succ, List.getElem?_cons_zero]; rfl) (fun K hK => ?_) ?_
        · go_simp
          refine hK.out _ _ ⟨by rw [rowAt_setRow, if_neg h86]; exact hS.1, by rw [rowAt_setRow, if_neg h56]; exact hS.2⟩ (fun hS2 => ?_)
          have HN6v := Lib.hid (noBy3 r6z)
          have e6v : rowAt (w3.setRow (w.heap.size + 1 + 1) #[.int .i64 s, .int .i64 fR, .slice AR R1.length cR]) (w.heap.size + 1 + 1) = some (#[.int .i64 s, .int .i64 fR, .slice AR R1.length cR], 35) := by rw [rowAt_setRow, if_pos rfl, r6z]; rfl
          clear hS hK K r6z
          have hS := hS2
          clear hS2
          (try simp only [act_put, act_put_none, List.set_cons_zero, List.set_cons_succ])
          refine held_take (i := 9) (by simp only [List.getElem?_toArray, List.getElem?_cons_succ, List.getElem?_cons_zero]; rfl) (by decide +kernel) (by decide +kernel) (by decide +kernel) (by exact fun _ _ _ _ h => h) hS (by rfl) ?_
          apply Exists.intro
          refine ⟨fun w' hSw => ?_, ?_⟩
          · go_simp
            with_reducible rfl
          (try simp only [act_put, act_put_none, List.set_cons_zero, List.set_cons_succ])
          refine wpAnyH_done (by decide +kernel) ?_ _
          go_wp2_with fail
          refine ret_ct rfl rfl rfl rfl (by simp [go_sem, *]; rfl) ?_
          refine ⟨_, _, (!(e0 == 0)), ?z1, ?z2, HC.out, HN.out, ?z5, ?z6, ?z7⟩
          case z1 => rw [X4.out]; rfl
          case z2 => exact isBy_off HI3.out HN6v.out (Bt.setRow _ _ _)
          case z5 => exact dk_off HD3.out HN6v.out (Bt.setRow _ _ _) hn6.symm
          case z6 => exact HB3.out.late (Bt.setRow _ _ _) hge6
          case z7 => exact fun h _ => by simp [HAG.out h]
        exact AllReadyH.nil
      exact AllReadyH.nil
    · have x3 : R1 = lR ++ t := E3.out.symm.trans (by simp [stepL]; omega)
      have X3 := Lib.hid x3
      clear x3
      have x4 : G1 = fR := E4.out.symm.trans (by simp [stepF])
      have X4 := Lib.hid x4
      clear x4
      have hag : l = lR → e0 = 0 := fun h => by rw [← HE0.out, h, appE]; first | rw [if_pos (by omega)] | rw [if_neg (by omega)]
      have HAG := Lib.hid hag
      clear hag
      go_wp2_with fail
      refine (rapp_ok (by omega) ht4 (by omega) HRW.out HRN.out HTW.out HTN.out).mono ?_
      rw [← X3.out]
      rintro e w1 ⟨A3, c3, rfl, hi, hc3, hn3, hb2⟩
      have HI1 := Lib.hid hi
      have HC := Lib.hid hc3
      have HN := Lib.hid hn3
      clear hi hc3 hn3
      have r4x := rowKeep hb2 r4
      have r5x := rowKeep hb2 r5
      have r6x := rowKeep hb2 r6
      have HD1 := Lib.hid (HDW.out.below hb2)
      have HT1 := Lib.hid (HTW.out.below hb2)
      have HB1 := Lib.hid ((Bt.of (p := p) HBW.out).then hb2)
      have hge1 : w.heap.size + 1 + 1 < w1.heap.size := rowAt_lt r6x
      clear hb2
      clear v0 v1 v2 v3 q0 q1 q2 r4 r5 r6
      go_upto_region 4 with fail
      have hb3 : Below w1.heap.size w1 (w1.alloc (.cells #[.int .i64 s, .int .i64 fR, .slice A3 R1.length c3] 35)).drew := ((Below.refl _ _).alloc (Nat.le_refl _) _).drew
      have r8 : rowAt (w1.alloc (.cells #[.int .i64 s, .int .i64 fR, .slice A3 R1.length c3] 35)).drew w1.heap.size = some (#[.int .i64 s, .int .i64 fR, .slice A3 R1.length c3], 35) := by rw [rowAt_drew]; exact rowAt_alloc_at _ _ _ _ rfl
      have r5y := rowKeep hb3 r5x
      have r6y := rowKeep hb3 r6x
      have HD2 := Lib.hid (HD1.out.below hb3)
      have HT2 := Lib.hid (HT1.out.below hb3)
      have HI2 := Lib.hid (HI1.out.below hb3)
      have HB2 := Lib.hid (HB1.out.then hb3)
      have hn8 : w1.heap.size ≠ p := by omega
      have h86 : w1.heap.size ≠ w.heap.size + 1 + 1 := by omega
      have h56 : w.heap.size + 1 ≠ w.heap.size + 1 + 1 := by omega
      refine wp_region_held_drew (S := fun w' : World => rowAt w' w1.heap.size = some (#[.int .i64 s, .int .i64 fR, .slice A3 R1.length c3], 35) ∧ rowAt w' (w.heap.size + 1) = some (#[.int .i64 0, .int .i64 N, .int .i64 M, .slice B t.length ct], 37)) (by kernel_rfl) ⟨r8, r5y⟩ (fun hS => ?_)
      clear hb3 r8 r5y r4x r5x r6x
      generalize (w1.alloc (.cells #[.int .i64 s, .int .i64 fR, .slice A3 R1.length c3] 35)).drew = W1 at *
      refine held_take (i := 0) (by simp only [List.getElem?_toArray, List.getElem?_cons_succ, List.getElem?_cons_zero]; rfl) (by decide +kernel) (by decide +kernel) (by decide +kernel) (by exact fun _ _ _ _ h => h) hS (by rfl) ?_
      apply Exists.intro
      refine ⟨fun w' hSw => ?_, ?_⟩
      · obtain ⟨q1, q2⟩ := hSw
        go_simp
        with_reducible rfl
      (try simp only [act_put, act_put_none, List.set_cons_zero, List.set_cons_succ])
      refine held_take (i := 1) (by simp only [List.getElem?_toArray, List.getElem?_cons_succ, List.getElem?_cons_zero]; rfl) (by decide +kernel) (by decide +kernel) (by decide +kernel) (by exact fun _ _ _ _ h => h) hS (by rfl) ?_
      apply Exists.intro
      refine ⟨fun w' hSw => ?_, ?_⟩
      · go_simp
        with_reducible rfl
      (try simp only [act_put, act_put_none, List.set_cons_zero, List.set_cons_succ])
      refine held_take (i := 2) (by simp only [List.getElem?_toArray, List.getElem?_cons_succ, List.getElem?_cons_zero]; rfl) (by decide +kernel) (by decide +kernel) (by decide +kernel) (by exact fun _ _ _ _ h => h) hS (by rfl) ?_
      apply Exists.intro
      refine ⟨fun w' hSw => ?_, ?_⟩
      · go_simp
        with_reducible rfl
      (try simp only [act_put, act_put_none, List.set_cons_zero, List.set_cons_succ])
      refine held_take (i := 3) (by simp only [List.getElem?_toArray, List.getElem?_cons_succ, List.getElem?_cons_zero]; rfl) (by decide +kernel) (by decide +kernel) (by decide +kernel) (by exact fun _ _ _ _ h => h) hS (by rfl) ?_
      apply Exists.intro
      refine ⟨fun w' hSw => ?_, ?_⟩
      · obtain ⟨q1, q2⟩ := hSw
        have hc2 : w'.cell? ⟨w.heap.size + 1, 3, none⟩ = some (.slice B t.length ct) := by rw [cell_of_rowAt q2]; rfl
        go_simp
        with_reducible rfl
      (try simp only [act_put, act_put_none, List.set_cons_zero, List.set_cons_succ])
      refine held_take (i := 6) (by simp only [List.getElem?_toArray, List.getElem?_cons_succ, List.getElem?_cons_zero]; rfl) (by decide +kernel) (by decide +kernel) (by decide +kernel) (by exact fun _ _ _ _ h => h) hS (by rfl) ?_
      apply Exists.intro
      refine ⟨fun w' hSw => ?_, ?_⟩
      · go_simp
        with_reducible rfl
      (try simp only [act_put, act_put_none, List.set_cons_zero, List.set_cons_succ])
      refine wpAnyH_ready (rs := [4]) (by decide +kernel) (by simp) ?_
      refine AllReadyH.cons (i := 4) (by simp only [List.getElem?_toArray, List.getElem?_cons_succ, List.getElem?_cons_zero]; rfl) (fun K hK => ?_) ?_
      · go_simp
        go_at_call 11
        refine (dapp_any HD2.out hs0 hs1 hl HT2.out HTN.out HE0.out E1.out E2.out).mono ?_
        rintro e w3 ⟨rfl, hd, hb⟩
        have r6z := (hb.row (rowAt_lt r6y) hn6).trans r6y
        have HD3 := Lib.hid hd
        have HI3 := Lib.hid (HI2.out.bt HD2.out hb)
        have HB3 := Lib.hid (HB2.out.trans hb)
        have t1 := (hb.row (rowAt_lt hS.1) hn8).trans hS.1
        have t2 := (hb.row (rowAt_lt hS.2) hn5).trans hS.2
        clear hd hb r6y
        go_simp
        refine hK.out _ _ ⟨t1, t2⟩ (fun hS2 => ?_)
        clear hS hK K t1 t2
        have hS := hS2
        clear hS2
        (try simp only [act_put, act_put_none, List.set_cons_zero, List.set_cons_succ])
        refine held_take (i := 5) (by simp only [List.getElem?_toArray, List.getElem?_cons_succ, List.getElem?_cons_zero]; rfl) (by decide +kernel) (by decide +kernel) (by decide +kernel) (by exact fun _ _ _ _ h => h) hS (by rfl) ?_
        apply Exists.intro
        refine ⟨fun w' hSw => ?_, ?_⟩
        · go_simp
          with_reducible rfl
        (try simp only [act_put, act_put_none, List.set_cons_zero, List.set_cons_succ])
        refine held_take (i := 7) (by simp only [List.getElem?_toArray, List.getElem?_cons_succ, List.getElem?_cons_zero]; rfl) (by decide +kernel) (by decide +kernel) (by decide +kernel) (by exact fun _ _ _ _ h => h) hS (by rfl) ?_
        apply Exists.intro
        refine ⟨fun w' hSw => ?_, ?_⟩
        · go_simp
          with_reducible rfl
        (try simp only [act_put, act_put_none, List.set_cons_zero, List.set_cons_succ])
        refine wpAnyH_ready (rs := [8]) (by decide +kernel) (by simp) ?_
        refine AllReadyH.cons (i := 8) (by simp only [List.getElem?_toArray, List.getElem?_cons_succ, List.getElem?_cons_zero]; rfl) (fun K hK => ?_) ?_
        · go_simp
          refine hK.out _ _ ⟨by rw [rowAt_setRow, if_neg h86]; exact hS.1, by rw [rowAt_setRow, if_neg h56]; exact hS.2⟩ (fun hS2 => ?_)
          have HN6v := Lib.hid (noBy3 r6z)
          have e6v : rowAt (w3.setRow (w.heap.size + 1 + 1) #[.int .i64 s, .int .i64 fR, .slice A3 R1.length c3]) (w.heap.size + 1 + 1) = some (#[.int .i64 s, .int .i64 fR, .slice A3 R1.length c3], 35) := by rw [rowAt_setRow, if_pos rfl, r6z]; rfl
          clear hS hK K r6z
          have hS := hS2
          clear hS2
          (try simp only [act_put, act_put_none, List.set_cons_zero, List.set_cons_succ])
          refine held_take (i := 9) (by simp only [List.getElem?_toArray, List.getElem?_cons_succ, List.getElem?_cons_zero]; rfl) (by decide +kernel) (by decide +kernel) (by decide +kernel) (by exact fun _ _ _ _ h => h) hS (by rfl) ?_
          apply Exists.intro
          refine ⟨fun w' hSw => ?_, ?_⟩
          · go_simp
            with_reducible rfl
          (try simp only [act_put, act_put_none, List.set_cons_zero, List.set_cons_succ])
          refine wpAnyH_done (by decide +kernel) ?_ _
          go_wp2_with fail
          refine ret_ct rfl rfl rfl rfl (by simp [go_sem, *]; rfl) ?_
          refine ⟨_, _, (e0 == 0), ?z1, ?z2, HC.out, HN.out, ?z5, ?z6, ?z7⟩
          case z1 => rw [X4.out]; rfl
          case z2 => exact isBy_off HI3.out HN6v.out (Bt.setRow _ _ _)
          case z5 => exact dk_off HD3.out HN6v.out (Bt.setRow _ _ _) hn6.symm
          case z6 => exact HB3.out.late (Bt.setRow _ _ _) hge6
          case z7 => exact fun h _ => by simp [HAG.out h]
        exact AllReadyH.nil
      exact AllReadyH.nil
  · by_cases hv1 : V = 1
    · subst hv1
      go_wp2_with fail
      refine (dsync_any HDW.out).mono ?_
      rintro e w1 ⟨rfl, hd, hb⟩
      have r4x := (hb.row (rowAt_lt r4) hn4).trans r4
      have r5x := (hb.row (rowAt_lt r5) hn5).trans r5
      have r6x := (hb.row (rowAt_lt r6) hn6).trans r6
      have v0x : w1.cell? ⟨w.heap.size + 1, 0, none⟩ = some (.int .i64 1) := by rw [cell_of_rowAt r5x]; rfl
      have v1x : w1.cell? ⟨w.heap.size + 1, 1, none⟩ = some (.int .i64 N) := by rw [cell_of_rowAt r5x]; rfl
      have v2x : w1.cell? ⟨w.heap.size + 1, 2, none⟩ = some (.int .i64 M) := by rw [cell_of_rowAt r5x]; rfl
      have v3x : w1.cell? ⟨w.heap.size + 1, 3, none⟩ = some (.slice B t.length ct) := by rw [cell_of_rowAt r5x]; rfl
      have q0x : w1.cell? ⟨w.heap.size, 0, none⟩ = some (.int .i64 s) := by rw [cell_of_rowAt r4x]; rfl
      have q1x : w1.cell? ⟨w.heap.size, 1, none⟩ = some (.int .i64 fR) := by rw [cell_of_rowAt r4x]; rfl
      have q2x : w1.cell? ⟨w.heap.size, 2, none⟩ = some (.slice AR lR.length cR) := by rw [cell_of_rowAt r4x]; rfl
      have z1 : w1.frozen? ⟨w.heap.size, 1, none⟩ = false := frozen_of_rowAt r4x 1
      have y4 : rowAt (w1.setCell ⟨w.heap.size, 1, none⟩ (.int .i64 lR.length)) w.heap.size = some (#[.int .i64 s, .int .i64 lR.length, .slice AR lR.length cR], 35) := by rw [rowAt_setCell, if_pos rfl, r4x]; rfl
      have y6 : rowAt (w1.setCell ⟨w.heap.size, 1, none⟩ (.int .i64 lR.length)) (w.heap.size + 1 + 1) = some (#[.int .i64 0, .int .i64 0, .slice none 0 0], 35) := by rw [rowAt_setCell, if_neg h64, r6x]
      have HN4 := Lib.hid (noBy3 r4x)
      have HN6 := Lib.hid (noBy3 y6)
      have HD1 := Lib.hid (dk_off (dk_off hd (noBy3 r4x) (Bt.setCell _ 1 _ (.int .i64 lR.length)) hn4.symm) (noBy3 y6) (Bt.setRow _ _ #[.int .i64 s, .int .i64 lR.length, .slice AR lR.length cR]) hn6.symm)
      have HI1 := Lib.hid (isBy_off (isBy_off (HRW.out.bt HDW.out hb) (noBy3 r4x) (Bt.setCell _ 1 _ (.int .i64 lR.length))) (noBy3 y6) (Bt.setRow _ _ #[.int .i64 s, .int .i64 lR.length, .slice AR lR.length cR]))
      have HBT := Lib.hid ((((Bt.of HBW.out).trans hb).late (Bt.setCell w.heap.size 1 _ (.int .i64 lR.length)) (Nat.le_refl _)).late (Bt.setRow (w.heap.size + 1 + 1) _ #[.int .i64 s, .int .i64 lR.length, .slice AR lR.length cR]) hge6)
      clear hd hb
      clear v0 v1 v2 v3 q0 q1 q2 r4 r5 r6
      go_wp2_with fail
      refine ret_ct rfl rfl rfl rfl (by simp [go_sem, *]; rfl) ?_
      have x1 : L1 = l := E1.out.symm.trans (by simp [stepL, stepF])
      have x2 : F1 = l.length := E2.out.symm.trans (by simp [stepL, stepF])
      have x3 : R1 = lR := E3.out.symm.trans (by simp [stepL, stepF])
      have x4 : G1 = lR.length := E4.out.symm.trans (by simp [stepL, stepF])
      subst x1 x2 x3 x4
      exact ⟨AR, cR, true, rfl, HI1.out, hRc, HRN.out, HD1.out, HBT.out, fun _ _ => rfl⟩
    · by_cases hv2 : V = 2
      · subst hv2
        obtain ⟨e0, he0⟩ : ∃ e0, cutE l N = e0 := ⟨_, rfl⟩
        have HE0 := Lib.hid he0
        clear he0
        go_wp2_with fail
        refine (dcut_any HDW.out HE0.out E1.out E2.out).mono ?_
        rintro e w1 ⟨rfl, hd, hb⟩
        have r4x := (hb.row (rowAt_lt r4) hn4).trans r4
        have r5x := (hb.row (rowAt_lt r5) hn5).trans r5
        have r6x := (hb.row (rowAt_lt r6) hn6).trans r6
        have v0x : w1.cell? ⟨w.heap.size + 1, 0, none⟩ = some (.int .i64 2) := by rw [cell_of_rowAt r5x]; rfl
        have v1x : w1.cell? ⟨w.heap.size + 1, 1, none⟩ = some (.int .i64 N) := by rw [cell_of_rowAt r5x]; rfl
        have v2x : w1.cell? ⟨w.heap.size + 1, 2, none⟩ = some (.int .i64 M) := by rw [cell_of_rowAt r5x]; rfl
        have v3x : w1.cell? ⟨w.heap.size + 1, 3, none⟩ = some (.slice B t.length ct) := by rw [cell_of_rowAt r5x]; rfl
        have q0x : w1.cell? ⟨w.heap.size, 0, none⟩ = some (.int .i64 s) := by rw [cell_of_rowAt r4x]; rfl
        have q1x : w1.cell? ⟨w.heap.size, 1, none⟩ = some (.int .i64 fR) := by rw [cell_of_rowAt r4x]; rfl
        have q2x : w1.cell? ⟨w.heap.size, 2, none⟩ = some (.slice AR lR.length cR) := by rw [cell_of_rowAt r4x]; rfl
        have HD1 := Lib.hid hd
        have HR1 := Lib.hid (HRW.out.bt HDW.out hb)
        have HB1 := Lib.hid ((Bt.of (p := p) HBW.out).trans hb)
        clear hd hb
        clear v0 v1 v2 v3 q0 q1 q2 r4 r5 r6
        by_cases hn0 : N < 0
        · have x3 : R1 = lR := E3.out.symm.trans (by simp [stepL]; omega)
          have x4 : G1 = fR := E4.out.symm.trans (by simp [stepF]; omega)
          have hag : l = lR → e0 = 1 := fun h => by rw [← HE0.out, h, cutE, if_pos (by omega)]
          have HAG := Lib.hid hag
          have HN6 := Lib.hid (noBy3 r6x)
          clear hag
          go_wp2_with fail
          refine ret_ct rfl rfl rfl rfl (by simp [go_sem, *]; rfl) ?_
          subst x3 x4
          exact ⟨AR, cR, _, rfl, isBy_off HR1.out HN6.out (Bt.setRow _ _ _), hRc, HRN.out, dk_off HD1.out HN6.out (Bt.setRow _ _ _) hn6.symm, HB1.out.late (Bt.setRow _ _ _) hge6, fun h _ => by simp [HAG.out h]⟩
        · by_cases hnl : (lR.length : Int) < N
          · have hn1 : decide (N < 0) = false := decide_eq_false hn0
            have hn2 : decide ((lR.length : Int) < N) = true := decide_eq_true hnl
            have x3 : R1 = lR := E3.out.symm.trans (by simp [stepL]; omega)
            have x4 : G1 = fR := E4.out.symm.trans (by simp [stepF]; omega)
            have hag : l = lR → e0 = 1 := fun h => by rw [← HE0.out, h, cutE, if_pos (by omega)]
            have HAG := Lib.hid hag
            have HN6 := Lib.hid (noBy3 r6x)
            clear hag
            go_wp2_with fail
            refine ret_ct rfl rfl rfl rfl (by simp [go_sem, *]; rfl) ?_
            subst x3 x4
            exact ⟨AR, cR, _, rfl, isBy_off HR1.out HN6.out (Bt.setRow _ _ _), hRc, HRN.out, dk_off HD1.out HN6.out (Bt.setRow _ _ _) hn6.symm, HB1.out.late (Bt.setRow _ _ _) hge6, fun h _ => by simp [HAG.out h]⟩
          · obtain ⟨k, rfl⟩ := Int.eq_ofNat_of_zero_le (show 0 ≤ N by omega)
            have hkl : k ≤ lR.length := by omega
            have hkc : k ≤ cR := by omega
            have x3 : R1 = lR.take k := E3.out.symm.trans (by simp [stepL]; omega)
            have hr1 : R1.length = k := by rw [x3, List.length_take]; omega
            have X3 := Lib.hid x3
            have H1 := Lib.hid hr1
            have hag : l = lR → e0 = 0 := fun h => by rw [← HE0.out, h, cutE, if_neg (by omega)]
            have HAG := Lib.hid hag
            have h56 : w.heap.size + 1 ≠ w.heap.size + 1 + 1 := by omega
            have hn1 : decide ((k : Int) < 0) = false := decide_eq_false hn0
            have hn2 : decide ((lR.length : Int) < (k : Int)) = false := decide_eq_false hnl
            have hn3 : decide (lR.length < k) = false := decide_eq_false (by omega)
            clear x3 hr1 hag
            by_cases hkf : k < fR
            · have x4 : G1 = k := by
                have hh := E4.out
                unfold stepF at hh
                rw [if_neg (by decide), if_neg (by decide), if_pos rfl, if_neg (by omega)] at hh
                rw [← hh]
                unfold minI
                split <;> omega
              have X4 := Lib.hid x4
              clear x4
              go_upto_region 13 with fail
              refine wp_region_held_drew (S := fun w' : World => rowAt w' w.heap.size = some (#[.int .i64 s, .int .i64 fR, .slice AR lR.length cR], 35) ∧ rowAt w' (w.heap.size + 1) = some (#[.int .i64 2, .int .i64 k, .int .i64 M, .slice B t.length ct], 37)) (by kernel_rfl) ⟨by rw [rowAt_drew]; exact r4x, by rw [rowAt_drew]; exact r5x⟩ (fun hS => ?_)
              have hdw : Below w1.heap.size w1 w1.drew := (Below.refl _ _).drew
              have r6y : rowAt w1.drew (w.heap.size + 1 + 1) = some (#[.int .i64 0, .int .i64 0, .slice none 0 0], 35) := by rw [rowAt_drew]; exact r6x
              have HN6 := Lib.hid (noBy3 r6y)
              have HD2 := Lib.hid (HD1.out.below hdw)
              have hi2 : IsBy w1.drew AR R1 := by rw [X3.out]; exact (HR1.out.below hdw).take k
              have HI2 := Lib.hid hi2
              have HB2 := Lib.hid (HB1.out.then hdw)
              clear hdw hi2 r4x r5x r6x v0x v1x v2x v3x q0x q1x q2x
              generalize w1.drew = W1 at *
              refine held_take (i := 0) (by simp only [List.getElem?_toArray, List.getElem?_cons_succ, List.getElem?_cons_zero]; rfl) (by decide +kernel) (by decide +kernel) (by decide +kernel) (by exact fun _ _ _ _ h => h) hS (by rfl) ?_
              apply Exists.intro
              refine ⟨fun w' hSw => ?_, ?_⟩
              · go_simp
                with_reducible rfl
              (try simp only [act_put, act_put_none, List.set_cons_zero, List.set_cons_succ])
              refine held_take (i := 1) (by simp only [List.getElem?_toArray, List.getElem?_cons_succ, List.getElem?_cons_zero]; rfl) (by decide +kernel) (by decide +kernel) (by decide +kernel) (by exact fun _ _ _ _ h => h) hS (by rfl) ?_
              apply Exists.intro
              refine ⟨fun w' hSw => ?_, ?_⟩
              · obtain ⟨q1, q2⟩ := hSw
                have hc2 : w'.cell? ⟨w.heap.size, 0, none⟩ = some (.int .i64 s) := by rw [cell_of_rowAt q1]; rfl
                go_simp
                with_reducible rfl
              (try simp only [act_put, act_put_none, List.set_cons_zero, List.set_cons_succ])
              refine held_take (i := 2) (by simp only [List.getElem?_toArray, List.getElem?_cons_succ, List.getElem?_cons_zero]; rfl) (by decide +kernel) (by decide +kernel) (by decide +kernel) (by exact fun _ _ _ _ h => h) hS (by rfl) ?_
              apply Exists.intro
              refine ⟨fun w' hSw => ?_, ?_⟩
              · go_simp
                with_reducible rfl
              (try simp only [act_put, act_put_none, List.set_cons_zero, List.set_cons_succ])
              refine held_take (i := 3) (by simp only [List.getElem?_toArray, List.getElem?_cons_succ, List.getElem?_cons_zero]; rfl) (by decide +kernel) (by decide +kernel) (by decide +kernel) (by exact fun _ _ _ _ h => h) hS (by rfl) ?_
              apply Exists.intro
              refine ⟨fun w' hSw => ?_, ?_⟩
              · obtain ⟨q1, q2⟩ := hSw
                have hc2 : w'.cell? ⟨w.heap.size, 1, none⟩ = some (.int .i64 fR) := by rw [cell_of_rowAt q1]; rfl
                go_simp
                with_reducible rfl
              (try simp only [act_put, act_put_none, List.set_cons_zero, List.set_cons_succ])
              refine held_take (i := 4) (by simp only [List.getElem?_toArray, List.getElem?_cons_succ, List.getElem?_cons_zero]; rfl) (by decide +kernel) (by decide +kernel) (by decide +kernel) (by exact fun _ _ _ _ h => h) hS (by rfl) ?_
              apply Exists.intro
              refine ⟨fun w' hSw => ?_, ?_⟩
              · go_simp
                with_reducible rfl
              (try simp only [act_put, act_put_none, List.set_cons_zero, List.set_cons_succ])
              refine held_take (i := 5) (by simp only [List.getElem?_toArray, List.getElem?_cons_succ, List.getElem?_cons_zero]; rfl) (by decide +kernel) (by decide +kernel) (by decide +kernel) (by exact fun _ _ _ _ h => h) hS (by rfl) ?_
              apply Exists.intro
              refine ⟨fun w' hSw => ?_, ?_⟩
              · obtain ⟨q1, q2⟩ := hSw
                have hc2 : w'.cell? ⟨w.heap.size + 1, 1, none⟩ = some (.int .i64 k) := by rw [cell_of_rowAt q2]; rfl
                go_simp
                with_reducible rfl
              (try simp only [act_put, act_put_none, List.set_cons_zero, List.set_cons_succ])
              refine held_take (i := 6) (by simp only [List.getElem?_toArray, List.getElem?_cons_succ, List.getElem?_cons_zero]; rfl) (by decide +kernel) (by decide +kernel) (by decide +kernel) (by exact fun _ _ _ _ h => h) hS (by rfl) ?_
              apply Exists.intro
              refine ⟨fun w' hSw => ?_, ?_⟩
              · go_simp
                with_reducible rfl
              (try simp only [act_put, act_put_none, List.set_cons_zero, List.set_cons_succ])
              refine held_take (i := 7) (by simp only [List.getElem?_toArray, List.getElem?_cons_succ, List.getElem?_cons_zero]; rfl) (by decide +kernel) (by decide +kernel) (by decide +kernel) (by exact fun _ _ _ _ h => h) hS (by rfl) ?_
              apply Exists.intro
              refine ⟨fun w' hSw => ?_, ?_⟩
              · go_simp
                with_reducible rfl
              (try simp only [act_put, act_put_none, List.set_cons_zero, List.set_cons_succ])
              refine held_take (i := 8) (by simp only [List.getElem?_toArray, List.getElem?_cons_succ, List.getElem?_cons_zero]; rfl) (by decide +kernel) (by decide +kernel) (by decide +kernel) (by exact fun _ _ _ _ h => h) hS (by rfl) ?_
              apply Exists.intro
              refine ⟨fun w' hSw => ?_, ?_⟩
              · obtain ⟨q1, q2⟩ := hSw
                have hc2 : w'.cell? ⟨w.heap.size, 2, none⟩ = some (.slice AR lR.length cR) := by rw [cell_of_rowAt q1]; rfl
                go_simp
                with_reducible rfl
              (try simp only [act_put, act_put_none, List.set_cons_zero, List.set_cons_succ])
              refine held_take (i := 9) (by simp only [List.getElem?_toArray, List.getElem?_cons_succ, List.getElem?_cons_zero]; rfl) (by decide +kernel) (by decide +kernel) (by decide +kernel) (by exact fun _ _ _ _ h => h) hS (by rfl) ?_
              apply Exists.intro
              refine ⟨fun w' hSw => ?_, ?_⟩
              · go_simp
                with_reducible rfl
              (try simp only [act_put, act_put_none, List.set_cons_zero, List.set_cons_succ])
              refine held_take (i := 10) (by simp only [List.getElem?_toArray, List.getElem?_cons_succ, List.getElem?_cons_zero]; rfl) (by decide +kernel) (by decide +kernel) (by decide +kernel) (by exact fun _ _ _ _ h => h) hS (by rfl) ?_
              apply Exists.intro
              refine ⟨fun w' hSw => ?_, ?_⟩
              · obtain ⟨q1, q2⟩ := hSw
                have hc2 : w'.cell? ⟨w.heap.size + 1, 1, none⟩ = some (.int .i64 k) := by rw [cell_of_rowAt q2]; rfl
                go_simp
                with_reducible rfl
              (try simp only [act_put, act_put_none, List.set_cons_zero, List.set_cons_succ])
              refine held_take (i := 11) (by simp only [List.getElem?_toArray, List.getElem?_cons_succ, List.getElem?_cons_zero]; rfl) (by decide +kernel) (by decide +kernel) (by decide +kernel) (by exact fun _ _ _ _ h => h) hS (by rfl) ?_
              apply Exists.intro
              refine ⟨fun w' hSw => ?_, ?_⟩
              · go_simp
                with_reducible rfl
              (try simp only [act_put, act_put_none, List.set_cons_zero, List.set_cons_succ])
              refine held_take (i := 12) (by simp only [List.getElem?_toArray, List.getElem?_cons_succ, List.getElem?_cons_zero]; rfl) (by decide +kernel) (by decide +kernel) (by decide +kernel) (by exact fun _ _ _ _ h => h) hS (by rfl) ?_
              apply Exists.intro
              refine ⟨fun w' hSw => ?_, ?_⟩
              · go_simp
                with_reducible rfl
              (try simp only [act_put, act_put_none, List.set_cons_zero, List.set_cons_succ])
              refine held_take (i := 13) (by simp only [List.getElem?_toArray, List.getElem?_cons_succ, List.getElem?_cons_zero]; rfl) (by decide +kernel) (by decide +kernel) (by decide +kernel) (by exact fun _ _ _ _ h => h) hS (by rfl) ?_
              apply Exists.intro
              refine ⟨fun w' hSw => ?_, ?_⟩
              · go_simp
                with_reducible rfl
              (try simp only [act_put, act_put_none, List.set_cons_zero, List.set_cons_succ])
              refine held_take (i := 14) (by simp only [List.getElem?_toArray, List.getElem?_cons_succ, List.getElem?_cons_zero]; rfl) (by decide +kernel) (by decide +kernel) (by decide +kernel) (by exact fun _ _ _ _ h => h) hS (by rfl) ?_
              apply Exists.intro
              refine ⟨fun w' hSw => ?_, ?_⟩
              · go_simp
                with_reducible rfl
              (try simp only [act_put, act_put_none, List.set_cons_zero, List.set_cons_succ])
              refine wpAnyH_ready (rs := [15]) (by decide +kernel) (by simp) ?_
              refine AllReadyH.cons (i := 15) (by simp only [List.getElem?_toArray, List.getElem?_cons_succ, List.getElem?_cons_zero]; rfl) (fun K hK => ?_) ?_
              · go_simp
                refine hK.out _ _ ⟨by rw [rowAt_setRow, if_neg h46]; exact hS.1, by rw [rowAt_setRow, if_neg h56]; exact hS.2⟩ (fun hS2 => ?_)
                clear hS hK K
                have hS := hS2
                clear hS2
                (try simp only [act_put, act_put_none, List.set_cons_zero, List.set_cons_succ])
                refine held_take (i := 16) (by simp only [List.getElem?_toArray, List.getElem?_cons_succ, List.getElem?_cons_zero]; rfl) (by decide +kernel) (by decide +kernel) (by decide +kernel) (by exact fun _ _ _ _ h => h) hS (by rfl) ?_
                apply Exists.intro
                refine ⟨fun w' hSw => ?_, ?_⟩
                · go_simp
                  with_reducible rfl
                (try simp only [act_put, act_put_none, List.set_cons_zero, List.set_cons_succ])
                refine wpAnyH_done (by decide +kernel) ?_ _
                go_wp2_with fail
                refine ret_ct rfl rfl rfl rfl (by simp [go_sem, *]; rfl) ?_
                exact ⟨AR, cR, _, by rw [H1.out, X4.out]; rfl, isBy_off HI2.out HN6.out (Bt.setRow _ _ _), by rw [H1.out]; exact hkc, HRN.out, dk_off HD2.out HN6.out (Bt.setRow _ _ _) hn6.symm, HB2.out.late (Bt.setRow _ _ _) hge6, fun h _ => by simp [HAG.out h]⟩
              exact AllReadyH.nil
            · have x4 : G1 = fR := by
                have hh := E4.out
                unfold stepF at hh
                rw [if_neg (by decide), if_neg (by decide), if_pos rfl, if_neg (by omega)] at hh
                rw [← hh]
                unfold minI
                split <;> omega
              have X4 := Lib.hid x4
              clear x4
              go_upto_region 13 with fail
              refine wp_region_held_drew (S := fun w' : World => rowAt w' w.heap.size = some (#[.int .i64 s, .int .i64 fR, .slice AR lR.length cR], 35) ∧ rowAt w' (w.heap.size + 1) = some (#[.int .i64 2, .int .i64 k, .int .i64 M, .slice B t.length ct], 37)) (by kernel_rfl) ⟨by rw [rowAt_drew]; exact r4x, by rw [rowAt_drew]; exact r5x⟩ (fun hS => ?_)
              have hdw : Below w1.heap.size w1 w1.drew := (Below.refl _ _).drew
              have r6y : rowAt w1.drew (w.heap.size + 1 + 1) = some (#[.int .i64 0, .int .i64 0, .slice none 0 0], 35) := by rw [rowAt_drew]; exact r6x
              have HN6 := Lib.hid (noBy3 r6y)
              have HD2 := Lib.hid (HD1.out.below hdw)
              have hi2 : IsBy w1.drew AR R1 := by rw [X3.out]; exact (HR1.out.below hdw).take k
              have HI2 := Lib.hid hi2
              have HB2 := Lib.hid (HB1.out.then hdw)
              clear hdw hi2 r4x r5x r6x v0x v1x v2x v3x q0x q1x q2x
              generalize w1.drew = W1 at *
              refine held_take (i := 0) (by simp only [List.getElem?_toArray, List.getElem?_cons_succ, List.getElem?_cons_zero]; rfl) (by decide +kernel) (by decide +kernel) (by decide +kernel) (by exact fun _ _ _ _ h => h) hS (by rfl) ?_
              apply Exists.intro
              refine ⟨fun w' hSw => ?_, ?_⟩
              · go_simp
                with_reducible rfl
              (try simp only [act_put, act_put_none, List.set_cons_zero, List.set_cons_succ])
              refine held_take (i := 1) (by simp only [List.getElem?_toArray, List.getElem?_cons_succ, List.getElem?_cons_zero]; rfl) (by decide +kernel) (by decide +kernel) (by decide +kernel) (by exact fun _ _ _ _ h => h) hS (by rfl) ?_
              apply Exists.intro
              refine ⟨fun w' hSw => ?_, ?_⟩
              · obtain ⟨q1, q2⟩ := hSw
                have hc2 : w'.cell? ⟨w.heap.size, 0, none⟩ = some (.int .i64 s) := by rw [cell_of_rowAt q1]; rfl
                go_simp
                with_reducible rfl
              (try simp only [act_put, act_put_none, List.set_cons_zero, List.set_cons_succ])
              refine held_take (i := 2) (by simp only [List.getElem?_toArray, List.getElem?_cons_succ, List.getElem?_cons_zero]; rfl) (by decide +kernel) (by decide +kernel) (by decide +kernel) (by exact fun _ _ _ _ h => h) hS (by rfl) ?_
              apply Exists.intro
              refine ⟨fun w' hSw => ?_, ?_⟩
              · go_simp
                with_reducible rfl
              (try simp only [act_put, act_put_none, List.set_cons_zero, List.set_cons_succ])
              refine held_take (i := 3) (by simp only [List.getElem?_toArray, List.getElem?_cons_succ, List.getElem?_cons_zero]; rfl) (by decide +kernel) (by decide +kernel) (by decide +kernel) (by exact fun _ _ _ _ h => h) hS (by rfl) ?_
              apply Exists.intro
              refine ⟨fun w' hSw => ?_, ?_⟩
              · obtain ⟨q1, q2⟩ := hSw
                have hc2 : w'.cell? ⟨w.heap.size, 1, none⟩ = some (.int .i64 fR) := by rw [cell_of_rowAt q1]; rfl
                go_simp
                with_reducible rfl
              (try simp only [act_put, act_put_none, List.set_cons_zero, List.set_cons_succ])
              refine held_take (i := 4) (by simp only [List.getElem?_toArray, List.getElem?_cons_succ, List.getElem?_cons_zero]; rfl) (by decide +kernel) (by decide +kernel) (by decide +kernel) (by exact fun _ _ _ _ h => h) hS (by rfl) ?_
              apply Exists.intro
              refine ⟨fun w' hSw => ?_, ?_⟩
              · go_simp
                with_reducible rfl
              (try simp only [act_put, act_put_none, List.set_cons_zero, List.set_cons_succ])
              refine held_take (i := 5) (by simp only [List.getElem?_toArray, List.getElem?_cons_succ, List.getElem?_cons_zero]; rfl) (by decide +kernel) (by decide +kernel) (by decide +kernel) (by exact fun _ _ _ _ h => h) hS (by rfl) ?_
              apply Exists.intro
              refine ⟨fun w' hSw => ?_, ?_⟩
              · obtain ⟨q1, q2⟩ := hSw
                have hc2 : w'.cell? ⟨w.heap.size + 1, 1, none⟩ = some (.int .i64 k) := by rw [cell_of_rowAt q2]; rfl
                go_simp
                with_reducible rfl
              (try simp only [act_put, act_put_none, List.set_cons_zero, List.set_cons_succ])
              refine held_take (i := 6) (by simp only [List.getElem?_toArray, List.getElem?_cons_succ, List.getElem?_cons_zero]; rfl) (by decide +kernel) (by decide +kernel) (by decide +kernel) (by exact fun _ _ _ _ h => h) hS (by rfl) ?_
              apply Exists.intro
              refine ⟨fun w' hSw => ?_, ?_⟩
              · go_simp
                with_reducible rfl
              (try simp only [act_put, act_put_none, List.set_cons_zero, List.set_cons_succ])
              refine held_take (i := 7) (by simp only [List.getElem?_toArray, List.getElem?_cons_succ, List.getElem?_cons_zero]; rfl) (by decide +kernel) (by decide +kernel) (by decide +kernel) (by exact fun _ _ _ _ h => h) hS (by rfl) ?_
              apply Exists.intro
              refine ⟨fun w' hSw => ?_, ?_⟩
              · go_simp
                with_reducible rfl
              (try simp only [act_put, act_put_none, List.set_cons_zero, List.set_cons_succ])
              refine held_take (i := 8) (by simp only [List.getElem?_toArray, List.getElem?_cons_succ, List.getElem?_cons_zero]; rfl) (by decide +kernel) (by decide +kernel) (by decide +kernel) (by exact fun _ _ _ _ h => h) hS (by rfl) ?_
              apply Exists.intro
              refine ⟨fun w' hSw => ?_, ?_⟩
              · obtain ⟨q1, q2⟩ := hSw
                have hc2 : w'.cell? ⟨w.heap.size, 2, none⟩ = some (.slice AR lR.length cR) := by rw [cell_of_rowAt q1]; rfl
                go_simp
                with_reducible rfl
              (try simp only [act_put, act_put_none, List.set_cons_zero, List.set_cons_succ])
              refine held_take (i := 9) (by simp only [List.getElem?_toArray, List.getElem?_cons_succ, List.getElem?_cons_zero]; rfl) (by decide +kernel) (by decide +kernel) (by decide +kernel) (by exact fun _ _ _ _ h => h) hS (by rfl) ?_
              apply Exists.intro
              refine ⟨fun w' hSw => ?_, ?_⟩
              · go_simp
                with_reducible rfl
              (try simp only [act_put, act_put_none, List.set_cons_zero, List.set_cons_succ])
              refine held_take (i := 10) (by simp only [List.getElem?_toArray, List.getElem?_cons_succ, List.getElem?_cons_zero]; rfl) (by decide +kernel) (by decide +kernel) (by decide +kernel) (by exact fun _ _ _ _ h => h) hS (by rfl) ?_
              apply Exists.intro
              refine ⟨fun w' hSw => ?_, ?_⟩
              · obtain ⟨q1, q2⟩ := hSw
                have hc2 : w'.cell? ⟨w.heap.size + 1, 1, none⟩ = some (.int .i64 k) := by rw [cell_of_rowAt q2]; rfl
                go_simp
                with_reducible rfl
              (try simp only [act_put, act_put_none, List.set_cons_zero, List.set_cons_succ])
              refine held_take (i := 11) (by simp only [List.getElem?_toArray, List.getElem?_cons_succ, List.getElem?_cons_zero]; rfl) (by decide +kernel) (by decide +kernel) (by decide +kernel) (by exact fun _ _ _ _ h => h) hS (by rfl) ?_
              apply Exists.intro
              refine ⟨fun w' hSw => ?_, ?_⟩
              · go_simp
                with_reducible rfl
              (try simp only [act_put, act_put_none, List.set_cons_zero, List.set_cons_succ])
              refine held_take (i := 12) (by simp only [List.getElem?_toArray, List.getElem?_cons_succ, List.getElem?_cons_zero]; rfl) (by decide +kernel) (by decide +kernel) (by decide +kernel) (by exact fun _ _ _ _ h => h) hS (by rfl) ?_
              apply Exists.intro
              refine ⟨fun w' hSw => ?_, ?_⟩
              · go_simp
                with_reducible rfl
              (try simp only [act_put, act_put_none, List.set_cons_zero, List.set_cons_succ])
              refine held_take (i := 13) (by simp only [List.getElem?_toArray, List.getElem?_cons_succ, List.getElem?_cons_zero]; rfl) (by decide +kernel) (by decide +kernel) (by decide +kernel) (by exact fun _ _ _ _ h => h) hS (by rfl) ?_
              apply Exists.intro
              refine ⟨fun w' hSw => ?_, ?_⟩
              · go_simp
                with_reducible rfl
              (try simp only [act_put, act_put_none, List.set_cons_zero, List.set_cons_succ])
              refine held_take (i := 14) (by simp only [List.getElem?_toArray, List.getElem?_cons_succ, List.getElem?_cons_zero]; rfl) (by decide +kernel) (by decide +kernel) (by decide +kernel) (by exact fun _ _ _ _ h => h) hS (by rfl) ?_
              apply Exists.intro
              refine ⟨fun w' hSw => ?_, ?_⟩
              · go_simp
                with_reducible rfl
              (try simp only [act_put, act_put_none, List.set_cons_zero, List.set_cons_succ])
              refine wpAnyH_ready (rs := [15]) (by decide +kernel) (by simp) ?_
              refine AllReadyH.cons (i := 15) (by simp only [List.getElem?_toArray, List.getElem?_cons_succ, List.getElem?_cons_zero]; rfl) (fun K hK => ?_) ?_
              · go_simp
                refine hK.out _ _ ⟨by rw [rowAt_setRow, if_neg h46]; exact hS.1, by rw [rowAt_setRow, if_neg h56]; exact hS.2⟩ (fun hS2 => ?_)
                clear hS hK K
                have hS := hS2
                clear hS2
                (try simp only [act_put, act_put_none, List.set_cons_zero, List.set_cons_succ])
                refine held_take (i := 16) (by simp only [List.getElem?_toArray, List.getElem?_cons_succ, List.getElem?_cons_zero]; rfl) (by decide +kernel) (by decide +kernel) (by decide +kernel) (by exact fun _ _ _ _ h => h) hS (by rfl) ?_
                apply Exists.intro
                refine ⟨fun w' hSw => ?_, ?_⟩
                · go_simp
                  with_reducible rfl
                (try simp only [act_put, act_put_none, List.set_cons_zero, List.set_cons_succ])
                refine wpAnyH_done (by decide +kernel) ?_ _
                go_wp2_with fail
                refine ret_ct rfl rfl rfl rfl (by simp [go_sem, *]; rfl) ?_
                exact ⟨AR, cR, _, by rw [H1.out, X4.out]; rfl, isBy_off HI2.out HN6.out (Bt.setRow _ _ _), by rw [H1.out]; exact hkc, HRN.out, dk_off HD2.out HN6.out (Bt.setRow _ _ _) hn6.symm, HB2.out.late (Bt.setRow _ _ _) hge6, fun h _ => by simp [HAG.out h]⟩
              exact AllReadyH.nil
      · by_cases hv3 : V = 3
        · subst hv3
          obtain ⟨e0, he0⟩ : ∃ e0, swapE s t = e0 := ⟨_, rfl⟩
          have HE0 := Lib.hid he0
          clear he0
          go_wp2_with fail
          refine (dswap_any HDW.out ht4 HTW.out htc HE0.out E1.out E2.out).mono ?_
          rintro e w1 ⟨rfl, hd, hb⟩
          have r4x := (hb.row (rowAt_lt r4) hn4).trans r4
          have r5x := (hb.row (rowAt_lt r5) hn5).trans r5
          have r6x := (hb.row (rowAt_lt r6) hn6).trans r6
          have v0x : w1.cell? ⟨w.heap.size + 1, 0, none⟩ = some (.int .i64 3) := by rw [cell_of_rowAt r5x]; rfl
          have v1x : w1.cell? ⟨w.heap.size + 1, 1, none⟩ = some (.int .i64 N) := by rw [cell_of_rowAt r5x]; rfl
          have v2x : w1.cell? ⟨w.heap.size + 1, 2, none⟩ = some (.int .i64 M) := by rw [cell_of_rowAt r5x]; rfl
          have v3x : w1.cell? ⟨w.heap.size + 1, 3, none⟩ = some (.slice B t.length ct) := by rw [cell_of_rowAt r5x]; rfl
          have q0x : w1.cell? ⟨w.heap.size, 0, none⟩ = some (.int .i64 s) := by rw [cell_of_rowAt r4x]; rfl
          have q1x : w1.cell? ⟨w.heap.size, 1, none⟩ = some (.int .i64 fR) := by rw [cell_of_rowAt r4x]; rfl
          have q2x : w1.cell? ⟨w.heap.size, 2, none⟩ = some (.slice AR lR.length cR) := by rw [cell_of_rowAt r4x]; rfl
          have HD1 := Lib.hid hd
          have HR1 := Lib.hid (HRW.out.bt HDW.out hb)
          have HT1 := Lib.hid (HTW.out.bt HDW.out hb)
          have HB1 := Lib.hid ((Bt.of (p := p) HBW.out).trans hb)
          have HN6 := Lib.hid (noBy3 r6x)
          clear hd hb
          clear v0 v1 v2 v3 q0 q1 q2 r4 r5 r6
          by_cases hnl : s < (t.length : Int)
          · have hn2 : decide (s < (t.length : Int)) = true := decide_eq_true hnl
            have he7 : e0 = 7 := by rw [← HE0.out, swapE, if_pos hnl]
            have x3 : R1 = lR := E3.out.symm.trans (by simp [stepL]; omega)
            have x4 : G1 = fR := E4.out.symm.trans (by simp [stepF]; omega)
            subst he7
            go_wp2_with fail
            refine ret_ct rfl rfl rfl rfl (by simp [go_sem, *]; rfl) ?_
            subst x3 x4
            exact ⟨AR, cR, _, rfl, isBy_off HR1.out HN6.out (Bt.setRow _ _ _), hRc, HRN.out, dk_off HD1.out HN6.out (Bt.setRow _ _ _) hn6.symm, HB1.out.late (Bt.setRow _ _ _) hge6, fun _ _ => rfl⟩
          · have hn2 : decide (s < (t.length : Int)) = false := decide_eq_false hnl
            have he7 : e0 = 0 := by rw [← HE0.out, swapE, if_neg hnl]
            have x3 : R1 = t := E3.out.symm.trans (by simp [stepL]; omega)
            have x4 : G1 = t.length := E4.out.symm.trans (by simp [stepF]; omega)
            subst he7
            have h56 : w.heap.size + 1 ≠ w.heap.size + 1 + 1 := by omega
            go_upto_region 18 with fail
            refine wp_region_held_drew (S := fun w' : World => rowAt w' w.heap.size = some (#[.int .i64 s, .int .i64 fR, .slice AR lR.length cR], 35) ∧ rowAt w' (w.heap.size + 1) = some (#[.int .i64 3, .int .i64 N, .int .i64 M, .slice B t.length ct], 37)) (by kernel_rfl) ⟨by rw [rowAt_drew]; exact r4x, by rw [rowAt_drew]; exact r5x⟩ (fun hS => ?_)
            have hdw : Below w1.heap.size w1 w1.drew := (Below.refl _ _).drew
            have r6y : rowAt w1.drew (w.heap.size + 1 + 1) = some (#[.int .i64 0, .int .i64 0, .slice none 0 0], 35) := by rw [rowAt_drew]; exact r6x
            have HD2 := Lib.hid (HD1.out.below hdw)
            have HT2 := Lib.hid (HT1.out.below hdw)
            have HB2 := Lib.hid (HB1.out.then hdw)
            clear hdw r4x r5x r6x v0x v1x v2x v3x q0x q1x q2x
            generalize w1.drew = W1 at *
            refine held_take (i := 0) (by simp only [List.getElem?_toArray, List.getElem?_cons_succ, List.getElem?_cons_zero]; rfl) (by decide +kernel) (by decide +kernel) (by decide +kernel) (by exact fun _ _ _ _ h => h) hS (by rfl) ?_
            apply Exists.intro
            refine ⟨fun w' hSw => ?_, ?_⟩
            · go_simp
              with_reducible rfl
            (try simp only [act_put, act_put_none, List.set_cons_zero, List.set_cons_succ])
            refine held_take (i := 1) (by simp only [List.getElem?_toArray, List.getElem?_cons_succ, List.getElem?_cons_zero]; rfl) (by decide +kernel) (by decide +kernel) (by decide +kernel) (by exact fun _ _ _ _ h => h) hS (by rfl) ?_
            apply Exists.intro
            refine ⟨fun w' hSw => ?_, ?_⟩
            · obtain ⟨q1, q2⟩ := hSw
              have hc2 : w'.cell? ⟨w.heap.size, 0, none⟩ = some (.int .i64 s) := by rw [cell_of_rowAt q1]; rfl
              go_simp
              with_reducible rfl
            (try simp only [act_put, act_put_none, List.set_cons_zero, List.set_cons_succ])
            refine held_take (i := 2) (by simp only [List.getElem?_toArray, List.getElem?_cons_succ, List.getElem?_cons_zero]; rfl) (by decide +kernel) (by decide +kernel) (by decide +kernel) (by exact fun _ _ _ _ h => h) hS (by rfl) ?_
            apply Exists.intro
            refine ⟨fun w' hSw => ?_, ?_⟩
            · go_simp
              with_reducible rfl
            (try simp only [act_put, act_put_none, List.set_cons_zero, List.set_cons_succ])
            refine held_take (i := 3) (by simp only [List.getElem?_toArray, List.getElem?_cons_succ, List.getElem?_cons_zero]; rfl) (by decide +kernel) (by decide +kernel) (by decide +kernel) (by exact fun _ _ _ _ h => h) hS (by rfl) ?_
            apply Exists.intro
            refine ⟨fun w' hSw => ?_, ?_⟩
            · obtain ⟨q1, q2⟩ := hSw
              have hc2 : w'.cell? ⟨w.heap.size + 1, 3, none⟩ = some (.slice B t.length ct) := by rw [cell_of_rowAt q2]; rfl
              go_simp
              with_reducible rfl
            (try simp only [act_put, act_put_none, List.set_cons_zero, List.set_cons_succ])
            refine held_take (i := 4) (by simp only [List.getElem?_toArray, List.getElem?_cons_succ, List.getElem?_cons_zero]; rfl) (by decide +kernel) (by decide +kernel) (by decide +kernel) (by exact fun _ _ _ _ h => h) hS (by rfl) ?_
            apply Exists.intro
            refine ⟨fun w' hSw => ?_, ?_⟩
            · go_simp
              with_reducible rfl
            (try simp only [act_put, act_put_none, List.set_cons_zero, List.set_cons_succ])
            refine held_take (i := 6) (by simp only [List.getElem?_toArray, List.getElem?_cons_succ, List.getElem?_cons_zero]; rfl) (by decide +kernel) (by decide +kernel) (by decide +kernel) (by exact fun _ _ _ _ h => h) hS (by rfl) ?_
            apply Exists.intro
            refine ⟨fun w' hSw => ?_, ?_⟩
            · go_simp
              with_reducible rfl
            (try simp only [act_put, act_put_none, List.set_cons_zero, List.set_cons_succ])
            refine held_take (i := 7) (by simp only [List.getElem?_toArray, List.getElem?_cons_succ, List.getElem?_cons_zero]; rfl) (by decide +kernel) (by decide +kernel) (by decide +kernel) (by exact fun _ _ _ _ h => h) hS (by rfl) ?_
            apply Exists.intro
            refine ⟨fun w' hSw => ?_, ?_⟩
            · obtain ⟨q1, q2⟩ := hSw
              have hc2 : w'.cell? ⟨w.heap.size + 1, 3, none⟩ = some (.slice B t.length ct) := by rw [cell_of_rowAt q2]; rfl
              go_simp
              with_reducible rfl
            (try simp only [act_put, act_put_none, List.set_cons_zero, List.set_cons_succ])
            refine held_take (i := 10) (by simp only [List.getElem?_toArray, List.getElem?_cons_succ, List.getElem?_cons_zero]; rfl) (by decide +kernel) (by decide +kernel) (by decide +kernel) (by exact fun _ _ _ _ h => h) hS (by rfl) ?_
            apply Exists.intro
            refine ⟨fun w' hSw => ?_, ?_⟩
            · go_simp
              with_reducible rfl
            (try simp only [act_put, act_put_none, List.set_cons_zero, List.set_cons_succ])
            refine held_take (i := 11) (by simp only [List.getElem?_toArray, List.getElem?_cons_succ, List.getElem?_cons_zero]; rfl) (by decide +kernel) (by decide +kernel) (by decide +kernel) (by exact fun _ _ _ _ h => h) hS (by rfl) ?_
            apply Exists.intro
            refine ⟨fun w' hSw => ?_, ?_⟩
            · go_simp
              with_reducible rfl
            (try simp only [act_put, act_put_none, List.set_cons_zero, List.set_cons_succ])
            refine wpAnyH_ready (rs := [5]) (by decide +kernel) (by simp) ?_
            refine AllReadyH.cons (i := 5) (by simp only [List.getElem?_toArray, List.getElem?_cons_succ, List.getElem?_cons_zero]; rfl) (fun K hK => ?_) ?_
            · go_simp
              refine hK.out _ _ ⟨rowPast hS.1, rowPast hS.2⟩ (fun hS2 => ?_)
              have hal : Below W1.heap.size W1 (W1.alloc (.cells #[] 5)) := (Below.refl _ _).alloc (Nat.le_refl _) _
              have r6z := rowPast (o := .cells #[] 5) r6y
              have HD3 := Lib.hid (HD2.out.below hal)
              have HT3 := Lib.hid (HT2.out.below hal)
              have HB3 := Lib.hid (HB2.out.then hal)
              clear hS hK K r6y hal HD2 HT2 HB2
              have hS := hS2
              clear hS2
              generalize W1.alloc (.cells #[] 5) = W2 at *
              (try simp only [act_put, act_put_none, List.set_cons_zero, List.set_cons_succ])
              refine wpAnyH_ready (rs := [8]) (by decide +kernel) (by simp) ?_
              refine AllReadyH.cons (i := 8) (by simp only [List.getElem?_toArray, List.getElem?_cons_succ, List.getElem?_cons_zero]; rfl) (fun K hK => ?_) ?_
              · rw [if_pos (by rfl)]
                refine wp_app_full _ _ rfl (some ⟨W1.heap.size, 0, none⟩) B [] t ct rfl rfl (IsBy.nil _ _) (fun _ => rfl) HT3.out HTN.out (by simp; omega) ?_
                intro A3 c3 w3 hi hc3 hn3 hb _
                have HI4 : Hid (IsBy w3 A3 t) := Lib.hid hi
                have HC4 : Hid (t.length ≤ c3) := Lib.hid hc3
                have HN4 := Lib.hid hn3
                rw [show (([] : List UInt8) ++ t).length = t.length from rfl]
                refine hK.out _ _ ⟨rowKeep hb hS.1, rowKeep hb hS.2⟩ (fun hS2 => ?_)
                have r6v := rowKeep hb r6z
                have HD4 := Lib.hid (HD3.out.below hb)
                have HB4 := Lib.hid (HB3.out.then hb)
                clear hS hK K r6z hb hi hc3 hn3
                have hS := hS2
                clear hS2
                (try simp only [act_put, act_put_none, List.set_cons_zero, List.set_cons_succ])
                refine held_take (i := 9) (by simp only [List.getElem?_toArray, List.getElem?_cons_succ, List.getElem?_cons_zero]; rfl) (by decide +kernel) (by decide +kernel) (by decide +kernel) (by exact fun _ _ _ _ h => h) hS (by rfl) ?_
                apply Exists.intro
                refine ⟨fun w' hSw => ?_, ?_⟩
                · go_simp
                  with_reducible rfl
                (try simp only [act_put, act_put_none, List.set_cons_zero, List.set_cons_succ])
                refine wpAnyH_ready (rs := [12]) (by decide +kernel) (by simp) ?_
                refine AllReadyH.cons (i := 12) (by simp only [List.getElem?_toArray, List.getElem?_cons_succ, List.getElem?_cons_zero]; rfl) (fun K hK => ?_) ?_
                · go_simp
                  refine hK.out _ _ ⟨by rw [rowAt_setRow, if_neg h46]; exact hS.1, by rw [rowAt_setRow, if_neg h56]; exact hS.2⟩ (fun hS2 => ?_)
                  have HN6v := Lib.hid (noBy3 r6v)
                  have e6v : rowAt (w3.setRow (w.heap.size + 1 + 1) #[.int .i64 s, .int .i64 t.length, .slice A3 t.length c3]) (w.heap.size + 1 + 1) = some (#[.int .i64 s, .int .i64 t.length, .slice A3 t.length c3], 35) := by rw [rowAt_setRow, if_pos rfl, r6v]; rfl
                  clear hS hK K r6v
                  have hS := hS2
                  clear hS2
                  (try simp only [act_put, act_put_none, List.set_cons_zero, List.set_cons_succ])
                  refine held_take (i := 13) (by simp only [List.getElem?_toArray, List.getElem?_cons_succ, List.getElem?_cons_zero]; rfl) (by decide +kernel) (by decide +kernel) (by decide +kernel) (by exact fun _ _ _ _ h => h) hS (by rfl) ?_
                  apply Exists.intro
                  refine ⟨fun w' hSw => ?_, ?_⟩
                  · go_simp
                    with_reducible rfl
                  (try simp only [act_put, act_put_none, List.set_cons_zero, List.set_cons_succ])
                  refine wpAnyH_done (by decide +kernel) ?_ _
                  go_wp2_with fail
                  refine ret_ct rfl rfl rfl rfl (by simp [go_sem, *]; rfl) ?_
                  subst x3 x4
                  exact ⟨A3, c3, _, rfl, isBy_off HI4.out HN6v.out (Bt.setRow _ _ _), HC4.out, HN4.out, dk_off HD4.out HN6v.out (Bt.setRow _ _ _) hn6.symm, HB4.out.late (Bt.setRow _ _ _) hge6, fun _ _ => rfl⟩
                exact AllReadyH.nil
              exact AllReadyH.nil
            exact AllReadyH.nil
        · by_cases hv4 : V = 4
          · subst hv4
            have x1 : L1 = l.take (crashI l.length f N M).toNat := E1.out.symm.trans (by simp [stepL])
            have x2 : F1 = (crashI l.length f N M).toNat := E2.out.symm.trans (by simp [stepF])
            have x3 : R1 = lR.take (crashI lR.length fR N M).toNat := E3.out.symm.trans (by simp [stepL])
            have x4 : G1 = (crashI lR.length fR N M).toNat := E4.out.symm.trans (by simp [stepF])
            obtain ⟨k1, k2⟩ := crash_range (n := l.length) (f := f) N M
            obtain ⟨k3, k4⟩ := crash_range (n := lR.length) (f := fR) N M
            have hg1 : G1 ≤ lR.length := by omega
            have hr1 : R1.length = G1 := by rw [x3, ← x4, List.length_take]; omega
            have X1 := Lib.hid x1
            have X2 : Hid ((F1 : Int) = crashI l.length f N M) := Lib.hid (by omega)
            have X3 : Hid (R1 = lR.take G1) := Lib.hid (by rw [x3, ← x4])
            have X4 := Lib.hid x4
            have H1 := Lib.hid hr1
            have hF1 : Hid (F1 = (crashI l.length f N M).toNat) := Lib.hid x2
            clear x1 x2 x3 x4 k1 k2 k3 k4 hr1
            go_wp2_with fail
            refine (dcrash_any N M HDW.out hf (by omega)).mono ?_
            rintro e w1 ⟨rfl, hd, hb⟩
            have r4x := (hb.row (rowAt_lt r4) hn4).trans r4
            have r5x := (hb.row (rowAt_lt r5) hn5).trans r5
            have r6x := (hb.row (rowAt_lt r6) hn6).trans r6
            have v0x : w1.cell? ⟨w.heap.size + 1, 0, none⟩ = some (.int .i64 4) := by rw [cell_of_rowAt r5x]; rfl
            have v1x : w1.cell? ⟨w.heap.size + 1, 1, none⟩ = some (.int .i64 N) := by rw [cell_of_rowAt r5x]; rfl
            have v2x : w1.cell? ⟨w.heap.size + 1, 2, none⟩ = some (.int .i64 M) := by rw [cell_of_rowAt r5x]; rfl
            have v3x : w1.cell? ⟨w.heap.size + 1, 3, none⟩ = some (.slice B t.length ct) := by rw [cell_of_rowAt r5x]; rfl
            have q0x : w1.cell? ⟨w.heap.size, 0, none⟩ = some (.int .i64 s) := by rw [cell_of_rowAt r4x]; rfl
            have q1x : w1.cell? ⟨w.heap.size, 1, none⟩ = some (.int .i64 fR) := by rw [cell_of_rowAt r4x]; rfl
            have q2x : w1.cell? ⟨w.heap.size, 2, none⟩ = some (.slice AR lR.length cR) := by rw [cell_of_rowAt r4x]; rfl
            have hd1 : DK w1 p s L1 F1 := by rw [X1.out, X2.out]; exact hd
            have HD1 := Lib.hid hd1
            have HR1 := Lib.hid (HRW.out.bt HDW.out hb)
            have HB1 := Lib.hid ((Bt.of (p := p) HBW.out).trans hb)
            clear hd hd1 hb
            clear v0 v1 v2 v3 q0 q1 q2 r4 r5 r6
            go_wp2_with fail
            refine (rcrash_any (K0 := G1) (by omega) hfR HR1.out hRc HRN.out X4.out.symm).mono ?_
            rintro e w2 ⟨A3, c3, rfl, hi, hc, hn, hb2⟩
            have r4y := rowKeep hb2 r4x
            have r5y := rowKeep hb2 r5x
            have r6y := rowKeep hb2 r6x
            have HD2 := Lib.hid (HD1.out.below hb2)
            have HB2 := Lib.hid (HB1.out.then hb2)
            have hi2 : IsBy w2 A3 R1 := by rw [X3.out]; exact hi
            have HI2 := Lib.hid hi2
            have HC3 : Hid (R1.length ≤ c3) := Lib.hid (by rw [H1.out]; exact hc)
            have HN3 := Lib.hid hn
            have HN6 := Lib.hid (noBy3 r6y)
            clear hi hi2 hc hn hb2 v0x v1x v2x v3x q0x q1x q2x r4x r5x r6x
            rw [← H1.out]
            go_wp2_with fail
            refine ret_ct rfl rfl rfl rfl (by simp [go_sem, *]; rfl) ?_
            exact ⟨A3, c3, true, by rw [H1.out]; rfl, isBy_off HI2.out HN6.out (Bt.setRow _ _ _), HC3.out, HN3.out, dk_off HD2.out HN6.out (Bt.setRow _ _ _) hn6.symm, HB2.out.late (Bt.setRow _ _ _) hge6, fun _ _ => rfl⟩
          · clear hs0
            go_wp2_with fail
            refine ret_ct rfl rfl rfl rfl (by simp [go_sem, *]; rfl) ?_
            have x1 : L1 = l := E1.out.symm.trans (by simp [stepL, stepF, hv0, hv1, hv2, hv3, hv4])
            have x2 : F1 = f := E2.out.symm.trans (by simp [stepL, stepF, hv0, hv1, hv2, hv3, hv4])
            have x3 : R1 = lR := E3.out.symm.trans (by simp [stepL, stepF, hv0, hv1, hv2, hv3, hv4])
            have x4 : G1 = fR := E4.out.symm.trans (by simp [stepL, stepF, hv0, hv1, hv2, hv3, hv4])
            subst x1 x2 x3 x4
            exact ⟨AR, cR, true, rfl, isBy_off HRW.out (noBy3 r6) (Bt.setRow _ _ _), hRc, HRN.out, dk_off HDW.out (noBy3 r6) (Bt.setRow _ _ _) hn6.symm, (Bt.of HBW.out).late (Bt.setRow _ _ _) hge6, fun _ _ => rfl⟩
end Go.Proofs.Ytfnbcafilbafgaa
