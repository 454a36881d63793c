/-
  The walk of FrameSums.
-/
import Derived.Test.YtaflbcckoiiddaaDoorAwake9
namespace Go.Proofs.YtaflbcckoiiddaaDoor
open Go.RowKit
set_option linter.unusedSimpArgs false
set_option linter.unusedVariables false
set_option maxRecDepth 20000 in
set_option maxHeartbeats 4000000 in
theorem frameSums_walk (A : Option Addr) (c : Nat) (l : List UInt8) (hm : l.length ≤ 9223372036854775807 ∧ (A = none → c = 0 ∧ l = []) ∧ l.length ≤ c) (w : World) (hN : Nib w) (hl : IsBy w A l) :
    Calls Tryd.prog 3 #[.slice A l.length c] w fun e w' => e = .returned (.bool true) ∧ Below w.heap.size w w' := by
  obtain ⟨hm1, hm2, hm3⟩ := hm
  have HN := Lib.hid hN
  have HL := Lib.hid hl
  have HM2 := Lib.hid (fun h => (hm2 h).1)
  clear hN hl hm2
  go_enter Tryd.func3, Tryd.ntmps3
  by_cases hbig : 32768 < l.length
  · have g1 : decide ((3000 : Int) < (l.length : Int)) = true := decide_eq_true (by omega)
    have g2 : decide ((l.length : Int) ≤ 32768) = false := decide_eq_false (by omega)
    have g3 : decide ((32768 : Int) < (l.length : Int)) = true := decide_eq_true (by omega)
    go_wp2_with fail
    refine (fput_big A l c w hbig).mono ?_
    rintro e _ ⟨rfl, rfl⟩
    go_wp2_with fail
    refine (awake9 w HN.out).mono ?_
    rintro e w9 ⟨rfl, hb9⟩
    have HB9 := Lib.hid hb9
    clear hb9
    go_wp2_with fail
    go_ret
    exact ⟨rfl, HB9.out⟩
  · have g3 : decide ((32768 : Int) < (l.length : Int)) = false := decide_eq_false (by omega)
    have g2 : decide ((l.length : Int) ≤ 32768) = true := decide_eq_true (by omega)
    by_cases hmid : 3000 < l.length
    · have g1 : decide ((3000 : Int) < (l.length : Int)) = true := decide_eq_true (by omega)
      go_wp2_with fail
      refine (awake9 w HN.out).mono ?_
      rintro e w9 ⟨rfl, hb9⟩
      have HB9 := Lib.hid hb9
      clear hb9
      go_wp2_with fail
      go_ret
      exact ⟨rfl, HB9.out⟩
    · have g1 : decide ((3000 : Int) < (l.length : Int)) = false := decide_eq_false (by omega)
      go_wp2_with fail
      refine (fput_any A l c w HN.out HL.out hm3 HM2.out (by omega)).mono ?_
      rintro e w1 ⟨v, rfl, hown, hb⟩
      obtain ⟨Av, cv, rfl, i1, _, _, _⟩ := hown.isBy
      have HB1 := Lib.hid hb
      have HI1 := Lib.hid i1
      have HN1 := Lib.hid (HN.out.below hb)
      have HL1 := Lib.hid (HL.out.below hb)
      clear hb hown i1
      obtain ⟨y, hy⟩ : ∃ y, putL l = y := ⟨_, rfl⟩
      rw [hy] at HI1
      rw [hy]
      have HY := Lib.hid hy
      clear hy
      go_upto_region 6 with fail
      refine wp_region_held_drew (S := fun w' : World => IsBy w' Av y ∧ IsBy w' A l ∧ Nib w' ∧ Hid (Below w.heap.size w w')) (by kernel_rfl) ⟨HI1.out.below (Below.refl _ _).drew, HL1.out.below (Below.refl _ _).drew, HN1.out.below (Below.refl _ _).drew, Lib.hid HB1.out.drew⟩ (fun hS => ?_)
      clear HI1 HL1 HN1 HB1
      generalize w1.drew = W7 at *
      refine held_take (i := 0) (by simp only [List.getElem?_toArray, List.getElem?_cons_succ, List.getElem?_cons_zero]; rfl) (by decide +kernel) (by decide +kernel) (by decide +kernel) (by exact fun _ _ _ _ h => h) hS (by rfl) ?_
      apply Exists.intro
      refine ⟨fun w' hSw => ?_, ?_⟩
      · go_simp
        with_reducible rfl
      (try simp only [act_put, act_put_none, List.set_cons_zero, List.set_cons_succ])
      refine held_take (i := 1) (by simp only [List.getElem?_toArray, List.getElem?_cons_succ, List.getElem?_cons_zero]; rfl) (by decide +kernel) (by decide +kernel) (by decide +kernel) (by exact fun _ _ _ _ h => h) hS (by rfl) ?_
      apply Exists.intro
      refine ⟨fun w' hSw => ?_, ?_⟩
      · go_simp
        with_reducible rfl
      (try simp only [act_put, act_put_none, List.set_cons_zero, List.set_cons_succ])
      refine held_take (i := 2) (by simp only [List.getElem?_toArray, List.getElem?_cons_succ, List.getElem?_cons_zero]; rfl) (by decide +kernel) (by decide +kernel) (by decide +kernel) (by exact fun _ _ _ _ h => h) hS (by rfl) ?_
      apply Exists.intro
      refine ⟨fun w' hSw => ?_, ?_⟩
      · go_simp
        with_reducible rfl
      (try simp only [act_put, act_put_none, List.set_cons_zero, List.set_cons_succ])
      refine held_take (i := 3) (by simp only [List.getElem?_toArray, List.getElem?_cons_succ, List.getElem?_cons_zero]; rfl) (by decide +kernel) (by decide +kernel) (by decide +kernel) (by exact fun _ _ _ _ h => h) hS (by rfl) ?_
      apply Exists.intro
      refine ⟨fun w' hSw => ?_, ?_⟩
      · go_simp
        with_reducible rfl
      (try simp only [act_put, act_put_none, List.set_cons_zero, List.set_cons_succ])
      refine held_take (i := 4) (by simp only [List.getElem?_toArray, List.getElem?_cons_succ, List.getElem?_cons_zero]; rfl) (by decide +kernel) (by decide +kernel) (by decide +kernel) (by exact fun _ _ _ _ h => h) hS (by rfl) ?_
      apply Exists.intro
      refine ⟨fun w' hSw => ?_, ?_⟩
      · obtain ⟨q1, _⟩ := hSw
        have hcv := convT (c := cv) q1
        go_simp
        with_reducible rfl
      (try simp only [act_put, act_put_none, List.set_cons_zero, List.set_cons_succ])
      refine held_take (i := 5) (by simp only [List.getElem?_toArray, List.getElem?_cons_succ, List.getElem?_cons_zero]; rfl) (by decide +kernel) (by decide +kernel) (by decide +kernel) (by exact fun _ _ _ _ h => h) hS (by rfl) ?_
      apply Exists.intro
      refine ⟨fun w' hSw => ?_, ?_⟩
      · go_simp
        with_reducible rfl
      (try simp only [act_put, act_put_none, List.set_cons_zero, List.set_cons_succ])
      refine wpAnyH_ready (rs := [6]) (by decide +kernel) (by simp) ?_
      refine AllReadyH.cons (i := 6) (by simp only [List.getElem?_toArray, List.getElem?_cons_succ, List.getElem?_cons_zero]; rfl) (fun K hK => ?_) ?_
      · go_simp
        go_at_call 12
        refine (rput_any A l c _ hS.2.1 HM2.out (by omega)).mono ?_
        rintro e v1 ⟨vr, rfl, hown, hb⟩
        have HX := Lib.hid hb
        obtain ⟨Ar, cr, rfl, i1, _, _, _⟩ := hown.isBy
        rw [HY.out] at i1
        rw [HY.out]
        have HRI := Lib.hid i1
        clear hb hown i1
        go_simp
        refine hK.out _ _ ⟨hS.1.below HX.out, hS.2.1.below HX.out, hS.2.2.1.below HX.out, Lib.hid (bthen hS.2.2.2.out HX.out)⟩ (fun hS2 => ?_)
        clear hS hK K
        have hS := hS2
        clear hS2
        clear HX
        (try simp only [act_put, act_put_none, List.set_cons_zero, List.set_cons_succ])
        refine wpAnyH_ready (rs := [7]) (by decide +kernel) (by simp) ?_
        refine AllReadyH.cons (i := 7) (by simp only [List.getElem?_toArray, List.getElem?_cons_succ, List.getElem?_cons_zero]; rfl) (fun K hK => ?_) ?_
        · have hcv := convT (c := cr) HRI.out
          go_simp
          refine hK.out _ _ hS (fun hS2 => ?_)
          clear hK K hS2 hcv
          (try simp only [act_put, act_put_none, List.set_cons_zero, List.set_cons_succ])
          refine held_take (i := 8) (by simp only [List.getElem?_toArray, List.getElem?_cons_succ, List.getElem?_cons_zero]; rfl) (by decide +kernel) (by decide +kernel) (by decide +kernel) (by exact fun _ _ _ _ h => h) hS (by rfl) ?_
          apply Exists.intro
          refine ⟨fun w' hSw => ?_, ?_⟩
          · go_simp
            with_reducible rfl
          (try simp only [act_put, act_put_none, List.set_cons_zero, List.set_cons_succ])
          refine held_take (i := 9) (by simp only [List.getElem?_toArray, List.getElem?_cons_succ, List.getElem?_cons_zero]; rfl) (by decide +kernel) (by decide +kernel) (by decide +kernel) (by exact fun _ _ _ _ h => h) hS (by rfl) ?_
          apply Exists.intro
          refine ⟨fun w' hSw => ?_, ?_⟩
          · go_simp
            with_reducible rfl
          (try simp only [act_put, act_put_none, List.set_cons_zero, List.set_cons_succ])
          refine held_take (i := 10) (by simp only [List.getElem?_toArray, List.getElem?_cons_succ, List.getElem?_cons_zero]; rfl) (by decide +kernel) (by decide +kernel) (by decide +kernel) (by exact fun _ _ _ _ h => h) hS (by rfl) ?_
          apply Exists.intro
          refine ⟨fun w' hSw => ?_, ?_⟩
          · go_simp
            with_reducible rfl
          (try simp only [act_put, act_put_none, List.set_cons_zero, List.set_cons_succ])
          refine held_take (i := 11) (by simp only [List.getElem?_toArray, List.getElem?_cons_succ, List.getElem?_cons_zero]; rfl) (by decide +kernel) (by decide +kernel) (by decide +kernel) (by exact fun _ _ _ _ h => h) hS (by rfl) ?_
          apply Exists.intro
          refine ⟨fun w' hSw => ?_, ?_⟩
          · go_simp
            with_reducible rfl
          (try simp only [act_put, act_put_none, List.set_cons_zero, List.set_cons_succ])
          refine held_take (i := 13) (by simp only [List.getElem?_toArray, List.getElem?_cons_succ, List.getElem?_cons_zero]; rfl) (by decide +kernel) (by decide +kernel) (by decide +kernel) (by exact fun _ _ _ _ h => h) hS (by rfl) ?_
          apply Exists.intro
          refine ⟨fun w' hSw => ?_, ?_⟩
          · go_simp
            with_reducible rfl
          (try simp only [act_put, act_put_none, List.set_cons_zero, List.set_cons_succ])
          refine wpAnyH_ready (rs := [12]) (by decide +kernel) (by simp) ?_
          refine AllReadyH.cons (i := 12) (by simp only [List.getElem?_toArray, List.getElem?_cons_succ, List.getElem?_cons_zero]; rfl) (fun K hK => ?_) ?_
          · go_simp
            go_at_call 13
            refine (fsum_any A l c _ hS.2.2.1 hS.2.1 (by omega)).mono ?_
            rintro e _ ⟨rfl, rfl⟩
            go_simp
            refine hK.out _ _ hS (fun hS2 => ?_)
            clear hK K hS2
            (try simp only [act_put, act_put_none, List.set_cons_zero, List.set_cons_succ])
            refine wpAnyH_ready (rs := [14]) (by decide +kernel) (by simp) ?_
            refine AllReadyH.cons (i := 14) (by simp only [List.getElem?_toArray, List.getElem?_cons_succ, List.getElem?_cons_zero]; rfl) (fun K hK => ?_) ?_
            · go_simp
              go_at_call 14
              refine (rsum_any A l c _ hS.2.1 (by omega)).mono ?_
              rintro e _ ⟨rfl, rfl⟩
              go_simp
              refine hK.out _ _ hS (fun hS2 => ?_)
              clear hK K hS2
              (try simp only [act_put, act_put_none, List.set_cons_zero, List.set_cons_succ])
              refine held_take (i := 15) (by simp only [List.getElem?_toArray, List.getElem?_cons_succ, List.getElem?_cons_zero]; rfl) (by decide +kernel) (by decide +kernel) (by decide +kernel) (by exact fun _ _ _ _ h => h) hS (by rfl) ?_
              apply Exists.intro
              refine ⟨fun w' hSw => ?_, ?_⟩
              · go_simp
                with_reducible rfl
              (try simp only [act_put, act_put_none, List.set_cons_zero, List.set_cons_succ])
              refine held_take (i := 16) (by simp only [List.getElem?_toArray, List.getElem?_cons_succ, List.getElem?_cons_zero]; rfl) (by decide +kernel) (by decide +kernel) (by decide +kernel) (by exact fun _ _ _ _ h => h) hS (by rfl) ?_
              apply Exists.intro
              refine ⟨fun w' hSw => ?_, ?_⟩
              · go_simp
                with_reducible rfl
              (try simp only [act_put, act_put_none, List.set_cons_zero, List.set_cons_succ])
              refine held_take (i := 17) (by simp only [List.getElem?_toArray, List.getElem?_cons_succ, List.getElem?_cons_zero]; rfl) (by decide +kernel) (by decide +kernel) (by decide +kernel) (by exact fun _ _ _ _ h => h) hS (by rfl) ?_
              apply Exists.intro
              refine ⟨fun w' hSw => ?_, ?_⟩
              · go_simp
                with_reducible rfl
              (try simp only [act_put, act_put_none, List.set_cons_zero, List.set_cons_succ])
              refine wpAnyH_ready (rs := [18]) (by decide +kernel) (by simp) ?_
              refine AllReadyH.cons (i := 18) (by simp only [List.getElem?_toArray, List.getElem?_cons_succ, List.getElem?_cons_zero]; rfl) (fun K hK => ?_) ?_
              · go_simp
                go_at_call 10
                refine (awake9 _ hS.2.2.1).mono ?_
                rintro e v3 ⟨rfl, hb⟩
                have HX := Lib.hid hb
                clear hb
                go_simp
                refine hK.out _ _ ⟨hS.1.below HX.out, hS.2.1.below HX.out, hS.2.2.1.below HX.out, Lib.hid (bthen hS.2.2.2.out HX.out)⟩ (fun hS2 => ?_)
                clear hS hK K
                have hS := hS2
                clear hS2
                clear HX
                (try simp only [act_put, act_put_none, List.set_cons_zero, List.set_cons_succ])
                refine held_take (i := 19) (by simp only [List.getElem?_toArray, List.getElem?_cons_succ, List.getElem?_cons_zero]; rfl) (by decide +kernel) (by decide +kernel) (by decide +kernel) (by exact fun _ _ _ _ h => h) hS (by rfl) ?_
                apply Exists.intro
                refine ⟨fun w' hSw => ?_, ?_⟩
                · go_simp
                  with_reducible rfl
                (try simp only [act_put, act_put_none, List.set_cons_zero, List.set_cons_succ])
                refine held_take (i := 20) (by simp only [List.getElem?_toArray, List.getElem?_cons_succ, List.getElem?_cons_zero]; rfl) (by decide +kernel) (by decide +kernel) (by decide +kernel) (by exact fun _ _ _ _ h => h) hS (by rfl) ?_
                apply Exists.intro
                refine ⟨fun w' hSw => ?_, ?_⟩
                · go_simp
                  with_reducible rfl
                (try simp only [act_put, act_put_none, List.set_cons_zero, List.set_cons_succ])
                refine wpAnyH_done (by decide +kernel) ?_ _
                have HSF := Lib.hid hS.2.2.2.out
                clear hS
                go_wp2_with fail
                go_ret
                exact ⟨rfl, HSF.out⟩
              exact AllReadyH.nil
            exact AllReadyH.nil
          exact AllReadyH.nil
        exact AllReadyH.nil
      exact AllReadyH.nil
end Go.Proofs.YtaflbcckoiiddaaDoor
