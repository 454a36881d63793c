/-
  The walk of OctetsPut.
-/
import Derived.Test.YtaflbcckoiiddaaOctRef
import Derived.Test.YtaflbcckoiiddaaHeld
namespace Go.Proofs.Ytaflbcckoiiddaa
open Go.RowKit
set_option linter.unusedSimpArgs false
attribute [local go_sem] rowAt_setRow rowAt_setCell
theorem strB_add (l r : List UInt8) : strB l ++ strB r = strB (l ++ r) := by
  apply ByteArray.ext
  simp [strB]
set_option maxRecDepth 100000 in
set_option maxHeartbeats 40000000 in
theorem octetsPut_walk (A : Option Addr) (c : Nat) (l : List UInt8) (hm : l.length ≤ 9223372036854775807 ∧ (A = none → c = 0 ∧ l = []) ∧ l.length ≤ c) (n : Int) (_hn : -9223372036854775808 ≤ n ∧ n ≤ 9223372036854775807) (s : ByteArray) (_hs : s.size ≤ maxLen) (w : World) (hl : IsBy w A l) :
    Calls Try.prog 6 #[.slice A l.length c, .int .i64 n, .string s] w fun e w' => e = .returned (.bool true) ∧ Below w.heap.size w w' := by
  clear _hn _hs
  obtain ⟨t, rfl⟩ : ∃ t, s = strB t := ⟨_, (strB_of s).symm⟩
  obtain ⟨hm1, hm2, hm3⟩ := hm
  have hsz := strB_size t
  have HL := Lib.hid hl
  have HA : Hid (A = none → c = 0) := Lib.hid fun h => (hm2 h).1
  clear hl hm2
  go_enter Try.func6, Try.ntmps6
  by_cases hL : l.length ≤ 2000
  · have hL' : (l.length : Int) ≤ 2000 := by omega
    by_cases hT : t.length ≤ 2000
    · have hT' : (t.length : Int) ≤ 2000 := by omega
      go_wp2_with (at_builtin; refine wl_append_bytes rfl _ _ rfl w.heap.size _ [] l A c rfl ?c1 rfl ?c2 HA.out ?c3 ?c4 ?_)
      case c1 => exact own_none w
      case c2 => exact HL.out.alloc _
      case c3 => simp; omega
      case c4 => simp
      intro v' w1 hown hb
      obtain ⟨A7, c7, rfl, i7, i7n, _, _⟩ := hown.isBy
      have HB := Lib.hid (((Below.refl w.heap.size w).alloc (Nat.le_refl _) _).trans hb)
      have H7 := Lib.hid i7
      have HN7 := Lib.hid i7n
      have HL1 := Lib.hid (HL.out.below HB.out)
      clear hown hb i7 i7n
      go_upto_region 4 with fail
      have hc1 : ∀ w', IsBy w' A7 l → Calls Try.prog 12 #[.slice A7 l.length c7, .int .i64 n] w' fun e w2 => ∃ v, e = .returned v ∧ OwnBy w2 w'.heap.size v (l ++ numB n) ∧ Below w'.heap.size w' w2 := fun w' h => number_any A7 c7 l n w' h HN7.out (by omega)
      have hc2 : ∀ w', Calls Try.prog 14 #[.int .i64 n] w' fun e w2 => ∃ v, e = .returned v ∧ OwnBy w2 w'.heap.size v (numB n) ∧ Below w'.heap.size w' w2 := fun w' => rnumber_any n w'
      have hc3 : ∀ w', IsBy w' A7 l → Calls Try.prog 15 #[.slice A7 l.length c7, .string (strB t)] w' fun e w2 => ∃ v, e = .returned v ∧ OwnBy w2 w'.heap.size v (l ++ (numB t.length ++ t)) ∧ Below w'.heap.size w' w2 := fun w' h => text_any A7 c7 l t w' h HN7.out (by omega) (by omega)
      have hc4 : ∀ w', Calls Try.prog 16 #[.string (strB t)] w' fun e w2 => ∃ v, e = .returned v ∧ OwnBy w2 w'.heap.size v (numB t.length ++ t) ∧ Below w'.heap.size w' w2 := fun w' => rtextB_any t w' (by omega)
      have hs1 := strB_add l (numB n)
      have hs2 := strB_add l (numB t.length ++ t)
      have hl2 := numB_len n
      have hl4 := numB_len t.length
      have hn1 : ¬ 9223372036854775807 < (strB l).size + (strB (numB n)).size := by rw [strB_size, strB_size]; omega
      have hn2 : ¬ 9223372036854775807 < (strB l).size + (strB (numB t.length ++ t)).size := by rw [strB_size, strB_size, List.length_append]; omega
      clear hl2 hl4
      generalize numB t.length ++ t = X4 at *
      generalize l ++ X4 = X3 at *
      generalize numB n = X2 at *
      generalize l ++ X2 = X1 at *
      have HC1 := Lib.hid hc1
      have HC2 := Lib.hid hc2
      have HC3 := Lib.hid hc3
      have HC4 := Lib.hid hc4
      clear hc1 hc2 hc3 hc4
      refine wp_region_held_drew (S := fun w' : World => IsBy w' A l ∧ IsBy w' A7 l ∧ Hid (Below w.heap.size w w')) (by kernel_rfl) ⟨HL1.out.below (Below.refl _ _).drew, H7.out.below (Below.refl _ _).drew, Lib.hid HB.out.drew⟩ (fun hS => ?_)
      clear HB H7 HL1
      generalize w1.drew = W1 at *
      refine held_take (i := 0) (by simp only [List.getElem?_toArray, List.getElem?_cons_succ, List.getElem?_cons_zero]; rfl) (by decide +kernel) (by decide +kernel) (by decide +kernel) (by exact fun _ _ _ _ h => h) hS (by rfl) ?_
      apply Exists.intro
      refine ⟨fun w' hSw => ?_, ?_⟩
      · obtain ⟨q1, q2, _⟩ := hSw
        go_simp
        with_reducible rfl
      (try simp only [act_put, act_put_none, List.set_cons_zero, List.set_cons_succ])
      refine held_take (i := 1) (by simp only [List.getElem?_toArray, List.getElem?_cons_succ, List.getElem?_cons_zero]; rfl) (by decide +kernel) (by decide +kernel) (by decide +kernel) (by exact fun _ _ _ _ h => h) hS (by rfl) ?_
      apply Exists.intro
      refine ⟨fun w' hSw => ?_, ?_⟩
      · obtain ⟨q1, q2, _⟩ := hSw
        go_simp
        with_reducible rfl
      (try simp only [act_put, act_put_none, List.set_cons_zero, List.set_cons_succ])
      refine held_take (i := 4) (by simp only [List.getElem?_toArray, List.getElem?_cons_succ, List.getElem?_cons_zero]; rfl) (by decide +kernel) (by decide +kernel) (by decide +kernel) (by exact fun _ _ _ _ h => h) hS (by rfl) ?_
      apply Exists.intro
      refine ⟨fun w' hSw => ?_, ?_⟩
      · obtain ⟨q1, q2, _⟩ := hSw
        go_simp
        with_reducible rfl
      (try simp only [act_put, act_put_none, List.set_cons_zero, List.set_cons_succ])
      refine held_take (i := 5) (by simp only [List.getElem?_toArray, List.getElem?_cons_succ, List.getElem?_cons_zero]; rfl) (by decide +kernel) (by decide +kernel) (by decide +kernel) (by exact fun _ _ _ _ h => h) hS (by rfl) ?_
      apply Exists.intro
      refine ⟨fun w' hSw => ?_, ?_⟩
      · obtain ⟨q1, q2, _⟩ := hSw
        have hcv := conv_bytes (c := c) q1
        go_simp
        with_reducible rfl
      (try simp only [act_put, act_put_none, List.set_cons_zero, List.set_cons_succ])
      refine held_take (i := 6) (by simp only [List.getElem?_toArray, List.getElem?_cons_succ, List.getElem?_cons_zero]; rfl) (by decide +kernel) (by decide +kernel) (by decide +kernel) (by exact fun _ _ _ _ h => h) hS (by rfl) ?_
      apply Exists.intro
      refine ⟨fun w' hSw => ?_, ?_⟩
      · obtain ⟨q1, q2, _⟩ := hSw
        go_simp
        with_reducible rfl
      (try simp only [act_put, act_put_none, List.set_cons_zero, List.set_cons_succ])
      refine wpAnyH_ready (rs := [2]) (by decide +kernel) (by simp) ?_
      refine AllReadyH.cons (i := 2) (by simp only [List.getElem?_toArray, List.getElem?_cons_succ, List.getElem?_cons_zero]; rfl) (fun K hK => ?_) ?_
      · go_simp
        go_at_call 12
        refine (HC1.out _ (hS.2.1)).mono ?_
        rintro e v1 ⟨x1, rfl, hown, hb⟩
        obtain ⟨B1, d1, rfl, i1, _, _, _⟩ := hown.isBy
        have HX := Lib.hid hb
        clear hb hown
        go_simp
        refine hK.out _ _ ⟨hS.1.below HX.out, hS.2.1.below HX.out, Lib.hid (bthen hS.2.2.out HX.out)⟩ (fun hS2 => ?_)
        clear hS hK K HX
        have hS := hS2
        clear hS2
        (try simp only [act_put, act_put_none, List.set_cons_zero, List.set_cons_succ])
        refine wpAnyH_ready (rs := [3, 7]) (by decide +kernel) (by simp) ?_
        refine AllReadyH.cons (i := 3) (by simp only [List.getElem?_toArray, List.getElem?_cons_succ, List.getElem?_cons_zero]; rfl) (fun K hK => ?_) ?_
        · have hcv := conv_bytes (c := d1) i1
          go_simp
          refine hK.out _ _ hS (fun hS2 => ?_)
          clear hK K hS2 hcv i1
          (try simp only [act_put, act_put_none, List.set_cons_zero, List.set_cons_succ])
          refine wpAnyH_ready (rs := [7]) (by decide +kernel) (by simp) ?_
          refine AllReadyH.cons (i := 7) (by simp only [List.getElem?_toArray, List.getElem?_cons_succ, List.getElem?_cons_zero]; rfl) (fun K hK => ?_) ?_
          · go_simp
            go_at_call 14
            refine (HC2.out _ ).mono ?_
            rintro e v2 ⟨x2, rfl, hown, hb⟩
            obtain ⟨B2, d2, rfl, i2, _, _, _⟩ := hown.isBy
            have HX := Lib.hid hb
            clear hb hown
            go_simp
            refine hK.out _ _ ⟨hS.1.below HX.out, hS.2.1.below HX.out, Lib.hid (bthen hS.2.2.out HX.out)⟩ (fun hS2 => ?_)
            clear hS hK K HX
            have hS := hS2
            clear hS2
            (try simp only [act_put, act_put_none, List.set_cons_zero, List.set_cons_succ])
            refine wpAnyH_ready (rs := [8]) (by decide +kernel) (by simp) ?_
            refine AllReadyH.cons (i := 8) (by simp only [List.getElem?_toArray, List.getElem?_cons_succ, List.getElem?_cons_zero]; rfl) (fun K hK => ?_) ?_
            · have hcv := conv_bytes (c := d2) i2
              go_simp
              refine hK.out _ _ hS (fun hS2 => ?_)
              clear hK K hS2 hcv i2
              (try simp only [act_put, act_put_none, List.set_cons_zero, List.set_cons_succ])
              refine held_take (i := 9) (by simp only [List.getElem?_toArray, List.getElem?_cons_succ, List.getElem?_cons_zero]; rfl) (by decide +kernel) (by decide +kernel) (by decide +kernel) (by exact fun _ _ _ _ h => h) hS (by rfl) ?_
              apply Exists.intro
              refine ⟨fun w' hSw => ?_, ?_⟩
              · obtain ⟨q1, q2, _⟩ := hSw
                go_simp
                with_reducible rfl
              (try simp only [act_put, act_put_none, List.set_cons_zero, List.set_cons_succ])
              refine held_take (i := 10) (by simp only [List.getElem?_toArray, List.getElem?_cons_succ, List.getElem?_cons_zero]; rfl) (by decide +kernel) (by decide +kernel) (by decide +kernel) (by exact fun _ _ _ _ h => h) hS (by rfl) ?_
              apply Exists.intro
              refine ⟨fun w' hSw => ?_, ?_⟩
              · obtain ⟨q1, q2, _⟩ := hSw
                go_simp
                with_reducible rfl
              (try simp only [act_put, act_put_none, List.set_cons_zero, List.set_cons_succ])
              refine held_take (i := 11) (by simp only [List.getElem?_toArray, List.getElem?_cons_succ, List.getElem?_cons_zero]; rfl) (by decide +kernel) (by decide +kernel) (by decide +kernel) (by exact fun _ _ _ _ h => h) hS (by rfl) ?_
              apply Exists.intro
              refine ⟨fun w' hSw => ?_, ?_⟩
              · obtain ⟨q1, q2, _⟩ := hSw
                go_simp
                with_reducible rfl
              (try simp only [act_put, act_put_none, List.set_cons_zero, List.set_cons_succ])
              refine held_take (i := 12) (by simp only [List.getElem?_toArray, List.getElem?_cons_succ, List.getElem?_cons_zero]; rfl) (by decide +kernel) (by decide +kernel) (by decide +kernel) (by exact fun _ _ _ _ h => h) hS (by rfl) ?_
              apply Exists.intro
              refine ⟨fun w' hSw => ?_, ?_⟩
              · obtain ⟨q1, q2, _⟩ := hSw
                go_simp
                with_reducible rfl
              (try simp only [act_put, act_put_none, List.set_cons_zero, List.set_cons_succ])
              refine held_take (i := 13) (by simp only [List.getElem?_toArray, List.getElem?_cons_succ, List.getElem?_cons_zero]; rfl) (by decide +kernel) (by decide +kernel) (by decide +kernel) (by exact fun _ _ _ _ h => h) hS (by rfl) ?_
              apply Exists.intro
              refine ⟨fun w' hSw => ?_, ?_⟩
              · obtain ⟨q1, q2, _⟩ := hSw
                go_simp
                with_reducible rfl
              (try simp only [act_put, act_put_none, List.set_cons_zero, List.set_cons_succ])
              refine held_take (i := 16) (by simp only [List.getElem?_toArray, List.getElem?_cons_succ, List.getElem?_cons_zero]; rfl) (by decide +kernel) (by decide +kernel) (by decide +kernel) (by exact fun _ _ _ _ h => h) hS (by rfl) ?_
              apply Exists.intro
              refine ⟨fun w' hSw => ?_, ?_⟩
              · obtain ⟨q1, q2, _⟩ := hSw
                go_simp
                with_reducible rfl
              (try simp only [act_put, act_put_none, List.set_cons_zero, List.set_cons_succ])
              refine held_take (i := 17) (by simp only [List.getElem?_toArray, List.getElem?_cons_succ, List.getElem?_cons_zero]; rfl) (by decide +kernel) (by decide +kernel) (by decide +kernel) (by exact fun _ _ _ _ h => h) hS (by rfl) ?_
              apply Exists.intro
              refine ⟨fun w' hSw => ?_, ?_⟩
              · obtain ⟨q1, q2, _⟩ := hSw
                have hcv := conv_bytes (c := c) q1
                go_simp
                with_reducible rfl
              (try simp only [act_put, act_put_none, List.set_cons_zero, List.set_cons_succ])
              refine held_take (i := 18) (by simp only [List.getElem?_toArray, List.getElem?_cons_succ, List.getElem?_cons_zero]; rfl) (by decide +kernel) (by decide +kernel) (by decide +kernel) (by exact fun _ _ _ _ h => h) hS (by rfl) ?_
              apply Exists.intro
              refine ⟨fun w' hSw => ?_, ?_⟩
              · obtain ⟨q1, q2, _⟩ := hSw
                go_simp
                with_reducible rfl
              (try simp only [act_put, act_put_none, List.set_cons_zero, List.set_cons_succ])
              refine wpAnyH_ready (rs := [14]) (by decide +kernel) (by simp) ?_
              refine AllReadyH.cons (i := 14) (by simp only [List.getElem?_toArray, List.getElem?_cons_succ, List.getElem?_cons_zero]; rfl) (fun K hK => ?_) ?_
              · go_simp
                go_at_call 15
                refine (HC3.out _ (hS.2.1)).mono ?_
                rintro e v3 ⟨x3, rfl, hown, hb⟩
                obtain ⟨B3, d3, rfl, i3, _, _, _⟩ := hown.isBy
                have HX := Lib.hid hb
                clear hb hown
                go_simp
                refine hK.out _ _ ⟨hS.1.below HX.out, hS.2.1.below HX.out, Lib.hid (bthen hS.2.2.out HX.out)⟩ (fun hS2 => ?_)
                clear hS hK K HX
                have hS := hS2
                clear hS2
                (try simp only [act_put, act_put_none, List.set_cons_zero, List.set_cons_succ])
                refine wpAnyH_ready (rs := [15, 19]) (by decide +kernel) (by simp) ?_
                refine AllReadyH.cons (i := 15) (by simp only [List.getElem?_toArray, List.getElem?_cons_succ, List.getElem?_cons_zero]; rfl) (fun K hK => ?_) ?_
                · have hcv := conv_bytes (c := d3) i3
                  go_simp
                  refine hK.out _ _ hS (fun hS2 => ?_)
                  clear hK K hS2 hcv i3
                  (try simp only [act_put, act_put_none, List.set_cons_zero, List.set_cons_succ])
                  refine wpAnyH_ready (rs := [19]) (by decide +kernel) (by simp) ?_
                  refine AllReadyH.cons (i := 19) (by simp only [List.getElem?_toArray, List.getElem?_cons_succ, List.getElem?_cons_zero]; rfl) (fun K hK => ?_) ?_
                  · go_simp
                    go_at_call 16
                    refine (HC4.out _ ).mono ?_
                    rintro e v4 ⟨x4, rfl, hown, hb⟩
                    obtain ⟨B4, d4, rfl, i4, _, _, _⟩ := hown.isBy
                    have HX := Lib.hid hb
                    clear hb hown
                    go_simp
                    refine hK.out _ _ ⟨hS.1.below HX.out, hS.2.1.below HX.out, Lib.hid (bthen hS.2.2.out HX.out)⟩ (fun hS2 => ?_)
                    clear hS hK K HX
                    have hS := hS2
                    clear hS2
                    (try simp only [act_put, act_put_none, List.set_cons_zero, List.set_cons_succ])
                    refine wpAnyH_ready (rs := [20]) (by decide +kernel) (by simp) ?_
                    refine AllReadyH.cons (i := 20) (by simp only [List.getElem?_toArray, List.getElem?_cons_succ, List.getElem?_cons_zero]; rfl) (fun K hK => ?_) ?_
                    · have hcv := conv_bytes (c := d4) i4
                      go_simp
                      refine hK.out _ _ hS (fun hS2 => ?_)
                      clear hK K hS2 hcv i4
                      (try simp only [act_put, act_put_none, List.set_cons_zero, List.set_cons_succ])
                      refine held_take (i := 21) (by simp only [List.getElem?_toArray, List.getElem?_cons_succ, List.getElem?_cons_zero]; rfl) (by decide +kernel) (by decide +kernel) (by decide +kernel) (by exact fun _ _ _ _ h => h) hS (by rfl) ?_
                      apply Exists.intro
                      refine ⟨fun w' hSw => ?_, ?_⟩
                      · obtain ⟨q1, q2, _⟩ := hSw
                        go_simp
                        with_reducible rfl
                      (try simp only [act_put, act_put_none, List.set_cons_zero, List.set_cons_succ])
                      refine held_take (i := 22) (by simp only [List.getElem?_toArray, List.getElem?_cons_succ, List.getElem?_cons_zero]; rfl) (by decide +kernel) (by decide +kernel) (by decide +kernel) (by exact fun _ _ _ _ h => h) hS (by rfl) ?_
                      apply Exists.intro
                      refine ⟨fun w' hSw => ?_, ?_⟩
                      · obtain ⟨q1, q2, _⟩ := hSw
                        go_simp
                        with_reducible rfl
                      (try simp only [act_put, act_put_none, List.set_cons_zero, List.set_cons_succ])
                      refine held_take (i := 23) (by simp only [List.getElem?_toArray, List.getElem?_cons_succ, List.getElem?_cons_zero]; rfl) (by decide +kernel) (by decide +kernel) (by decide +kernel) (by exact fun _ _ _ _ h => h) hS (by rfl) ?_
                      apply Exists.intro
                      refine ⟨fun w' hSw => ?_, ?_⟩
                      · obtain ⟨q1, q2, _⟩ := hSw
                        go_simp
                        with_reducible rfl
                      (try simp only [act_put, act_put_none, List.set_cons_zero, List.set_cons_succ])
                      refine held_take (i := 24) (by simp only [List.getElem?_toArray, List.getElem?_cons_succ, List.getElem?_cons_zero]; rfl) (by decide +kernel) (by decide +kernel) (by decide +kernel) (by exact fun _ _ _ _ h => h) hS (by rfl) ?_
                      apply Exists.intro
                      refine ⟨fun w' hSw => ?_, ?_⟩
                      · obtain ⟨q1, q2, _⟩ := hSw
                        go_simp
                        with_reducible rfl
                      (try simp only [act_put, act_put_none, List.set_cons_zero, List.set_cons_succ])
                      refine held_take (i := 25) (by simp only [List.getElem?_toArray, List.getElem?_cons_succ, List.getElem?_cons_zero]; rfl) (by decide +kernel) (by decide +kernel) (by decide +kernel) (by exact fun _ _ _ _ h => h) hS (by rfl) ?_
                      apply Exists.intro
                      refine ⟨fun w' hSw => ?_, ?_⟩
                      · obtain ⟨q1, q2, _⟩ := hSw
                        go_simp
                        with_reducible rfl
                      (try simp only [act_put, act_put_none, List.set_cons_zero, List.set_cons_succ])
                      refine held_take (i := 26) (by simp only [List.getElem?_toArray, List.getElem?_cons_succ, List.getElem?_cons_zero]; rfl) (by decide +kernel) (by decide +kernel) (by decide +kernel) (by exact fun _ _ _ _ h => h) hS (by rfl) ?_
                      apply Exists.intro
                      refine ⟨fun w' hSw => ?_, ?_⟩
                      · obtain ⟨q1, q2, _⟩ := hSw
                        have hcv := conv_bytes (c := c7) q2
                        go_simp
                        with_reducible rfl
                      (try simp only [act_put, act_put_none, List.set_cons_zero, List.set_cons_succ])
                      refine held_take (i := 27) (by simp only [List.getElem?_toArray, List.getElem?_cons_succ, List.getElem?_cons_zero]; rfl) (by decide +kernel) (by decide +kernel) (by decide +kernel) (by exact fun _ _ _ _ h => h) hS (by rfl) ?_
                      apply Exists.intro
                      refine ⟨fun w' hSw => ?_, ?_⟩
                      · obtain ⟨q1, q2, _⟩ := hSw
                        go_simp
                        with_reducible rfl
                      (try simp only [act_put, act_put_none, List.set_cons_zero, List.set_cons_succ])
                      refine held_take (i := 28) (by simp only [List.getElem?_toArray, List.getElem?_cons_succ, List.getElem?_cons_zero]; rfl) (by decide +kernel) (by decide +kernel) (by decide +kernel) (by exact fun _ _ _ _ h => h) hS (by rfl) ?_
                      apply Exists.intro
                      refine ⟨fun w' hSw => ?_, ?_⟩
                      · obtain ⟨q1, q2, _⟩ := hSw
                        have hcv := conv_bytes (c := c) q1
                        go_simp
                        with_reducible rfl
                      (try simp only [act_put, act_put_none, List.set_cons_zero, List.set_cons_succ])
                      refine held_take (i := 29) (by simp only [List.getElem?_toArray, List.getElem?_cons_succ, List.getElem?_cons_zero]; rfl) (by decide +kernel) (by decide +kernel) (by decide +kernel) (by exact fun _ _ _ _ h => h) hS (by rfl) ?_
                      apply Exists.intro
                      refine ⟨fun w' hSw => ?_, ?_⟩
                      · obtain ⟨q1, q2, _⟩ := hSw
                        go_simp
                        with_reducible rfl
                      (try simp only [act_put, act_put_none, List.set_cons_zero, List.set_cons_succ])
                      refine held_take (i := 30) (by simp only [List.getElem?_toArray, List.getElem?_cons_succ, List.getElem?_cons_zero]; rfl) (by decide +kernel) (by decide +kernel) (by decide +kernel) (by exact fun _ _ _ _ h => h) hS (by rfl) ?_
                      apply Exists.intro
                      refine ⟨fun w' hSw => ?_, ?_⟩
                      · obtain ⟨q1, q2, _⟩ := hSw
                        go_simp
                        with_reducible rfl
                      (try simp only [act_put, act_put_none, List.set_cons_zero, List.set_cons_succ])
                      refine held_take (i := 31) (by simp only [List.getElem?_toArray, List.getElem?_cons_succ, List.getElem?_cons_zero]; rfl) (by decide +kernel) (by decide +kernel) (by decide +kernel) (by exact fun _ _ _ _ h => h) hS (by rfl) ?_
                      apply Exists.intro
                      refine ⟨fun w' hSw => ?_, ?_⟩
                      · obtain ⟨q1, q2, _⟩ := hSw
                        go_simp
                        with_reducible rfl
                      (try simp only [act_put, act_put_none, List.set_cons_zero, List.set_cons_succ])
                      refine wpAnyH_ready (rs := [32]) (by decide +kernel) (by simp) ?_
                      refine AllReadyH.cons (i := 32) (by simp only [List.getElem?_toArray, List.getElem?_cons_succ, List.getElem?_cons_zero]; rfl) (fun K hK => ?_) ?_
                      · go_simp
                        go_at_call 8
                        refine (awake8 _).mono ?_
                        rintro e v5 ⟨rfl, hb⟩
                        have HX := Lib.hid hb
                        clear hb
                        go_simp
                        refine hK.out _ _ ⟨hS.1.below HX.out, hS.2.1.below HX.out, Lib.hid (bthen hS.2.2.out HX.out)⟩ (fun hS2 => ?_)
                        clear hS hK K HX
                        have hS := hS2
                        clear hS2
                        (try simp only [act_put, act_put_none, List.set_cons_zero, List.set_cons_succ])
                        refine held_take (i := 33) (by simp only [List.getElem?_toArray, List.getElem?_cons_succ, List.getElem?_cons_zero]; rfl) (by decide +kernel) (by decide +kernel) (by decide +kernel) (by exact fun _ _ _ _ h => h) hS (by rfl) ?_
                        apply Exists.intro
                        refine ⟨fun w' hSw => ?_, ?_⟩
                        · obtain ⟨q1, q2, _⟩ := hSw
                          go_simp
                          with_reducible rfl
                        (try simp only [act_put, act_put_none, List.set_cons_zero, List.set_cons_succ])
                        refine held_take (i := 34) (by simp only [List.getElem?_toArray, List.getElem?_cons_succ, List.getElem?_cons_zero]; rfl) (by decide +kernel) (by decide +kernel) (by decide +kernel) (by exact fun _ _ _ _ h => h) hS (by rfl) ?_
                        apply Exists.intro
                        refine ⟨fun w' hSw => ?_, ?_⟩
                        · obtain ⟨q1, q2, _⟩ := hSw
                          go_simp
                          with_reducible rfl
                        (try simp only [act_put, act_put_none, List.set_cons_zero, List.set_cons_succ])
                        refine wpAnyH_done (by decide +kernel) ?_ _
                        have HS := Lib.hid hS.2.2.out
                        clear hS
                        go_wp2_with fail
                        go_ret
                        exact ⟨rfl, HS.out⟩
                      exact AllReadyH.nil
                    exact AllReadyH.nil
                  exact AllReadyH.nil
                refine AllReadyH.cons (i := 19) (by simp only [List.getElem?_toArray, List.getElem?_cons_succ, List.getElem?_cons_zero]; rfl) (fun K hK => ?_) ?_
                · go_simp
                  go_at_call 16
                  refine (HC4.out _ ).mono ?_
                  rintro e v4 ⟨x4, rfl, hown, hb⟩
                  obtain ⟨B4, d4, rfl, i4, _, _, _⟩ := hown.isBy
                  have HX := Lib.hid hb
                  clear hb hown
                  have i3 := i3.below HX.out
                  go_simp
                  refine hK.out _ _ ⟨hS.1.below HX.out, hS.2.1.below HX.out, Lib.hid (bthen hS.2.2.out HX.out)⟩ (fun hS2 => ?_)
                  clear hS hK K HX
                  have hS := hS2
                  clear hS2
                  (try simp only [act_put, act_put_none, List.set_cons_zero, List.set_cons_succ])
                  refine wpAnyH_ready (rs := [15, 20]) (by decide +kernel) (by simp) ?_
                  refine AllReadyH.cons (i := 15) (by simp only [List.getElem?_toArray, List.getElem?_cons_succ, List.getElem?_cons_zero]; rfl) (fun K hK => ?_) ?_
                  · have hcv := conv_bytes (c := d3) i3
                    go_simp
                    refine hK.out _ _ hS (fun hS2 => ?_)
                    clear hK K hS2 hcv i3
                    (try simp only [act_put, act_put_none, List.set_cons_zero, List.set_cons_succ])
                    refine wpAnyH_ready (rs := [20]) (by decide +kernel) (by simp) ?_
                    refine AllReadyH.cons (i := 20) (by simp only [List.getElem?_toArray, List.getElem?_cons_succ, List.getElem?_cons_zero]; rfl) (fun K hK => ?_) ?_
                    · have hcv := conv_bytes (c := d4) i4
                      go_simp
                      refine hK.out _ _ hS (fun hS2 => ?_)
                      clear hK K hS2 hcv i4
                      (try simp only [act_put, act_put_none, List.set_cons_zero, List.set_cons_succ])
                      refine held_take (i := 21) (by simp only [List.getElem?_toArray, List.getElem?_cons_succ, List.getElem?_cons_zero]; rfl) (by decide +kernel) (by decide +kernel) (by decide +kernel) (by exact fun _ _ _ _ h => h) hS (by rfl) ?_
                      apply Exists.intro
                      refine ⟨fun w' hSw => ?_, ?_⟩
                      · obtain ⟨q1, q2, _⟩ := hSw
                        go_simp
                        with_reducible rfl
                      (try simp only [act_put, act_put_none, List.set_cons_zero, List.set_cons_succ])
                      refine held_take (i := 22) (by simp only [List.getElem?_toArray, List.getElem?_cons_succ, List.getElem?_cons_zero]; rfl) (by decide +kernel) (by decide +kernel) (by decide +kernel) (by exact fun _ _ _ _ h => h) hS (by rfl) ?_
                      apply Exists.intro
                      refine ⟨fun w' hSw => ?_, ?_⟩
                      · obtain ⟨q1, q2, _⟩ := hSw
                        go_simp
                        with_reducible rfl
                      (try simp only [act_put, act_put_none, List.set_cons_zero, List.set_cons_succ])
                      refine held_take (i := 23) (by simp only [List.getElem?_toArray, List.getElem?_cons_succ, List.getElem?_cons_zero]; rfl) (by decide +kernel) (by decide +kernel) (by decide +kernel) (by exact fun _ _ _ _ h => h) hS (by rfl) ?_
                      apply Exists.intro
                      refine ⟨fun w' hSw => ?_, ?_⟩
                      · obtain ⟨q1, q2, _⟩ := hSw
                        go_simp
                        with_reducible rfl
                      (try simp only [act_put, act_put_none, List.set_cons_zero, List.set_cons_succ])
                      refine held_take (i := 24) (by simp only [List.getElem?_toArray, List.getElem?_cons_succ, List.getElem?_cons_zero]; rfl) (by decide +kernel) (by decide +kernel) (by decide +kernel) (by exact fun _ _ _ _ h => h) hS (by rfl) ?_
                      apply Exists.intro
                      refine ⟨fun w' hSw => ?_, ?_⟩
                      · obtain ⟨q1, q2, _⟩ := hSw
                        go_simp
                        with_reducible rfl
                      (try simp only [act_put, act_put_none, List.set_cons_zero, List.set_cons_succ])
                      refine held_take (i := 25) (by simp only [List.getElem?_toArray, List.getElem?_cons_succ, List.getElem?_cons_zero]; rfl) (by decide +kernel) (by decide +kernel) (by decide +kernel) (by exact fun _ _ _ _ h => h) hS (by rfl) ?_
                      apply Exists.intro
                      refine ⟨fun w' hSw => ?_, ?_⟩
                      · obtain ⟨q1, q2, _⟩ := hSw
                        go_simp
                        with_reducible rfl
                      (try simp only [act_put, act_put_none, List.set_cons_zero, List.set_cons_succ])
                      refine held_take (i := 26) (by simp only [List.getElem?_toArray, List.getElem?_cons_succ, List.getElem?_cons_zero]; rfl) (by decide +kernel) (by decide +kernel) (by decide +kernel) (by exact fun _ _ _ _ h => h) hS (by rfl) ?_
                      apply Exists.intro
                      refine ⟨fun w' hSw => ?_, ?_⟩
                      · obtain ⟨q1, q2, _⟩ := hSw
                        have hcv := conv_bytes (c := c7) q2
                        go_simp
                        with_reducible rfl
                      (try simp only [act_put, act_put_none, List.set_cons_zero, List.set_cons_succ])
                      refine held_take (i := 27) (by simp only [List.getElem?_toArray, List.getElem?_cons_succ, List.getElem?_cons_zero]; rfl) (by decide +kernel) (by decide +kernel) (by decide +kernel) (by exact fun _ _ _ _ h => h) hS (by rfl) ?_
                      apply Exists.intro
                      refine ⟨fun w' hSw => ?_, ?_⟩
                      · obtain ⟨q1, q2, _⟩ := hSw
                        go_simp
                        with_reducible rfl
                      (try simp only [act_put, act_put_none, List.set_cons_zero, List.set_cons_succ])
                      refine held_take (i := 28) (by simp only [List.getElem?_toArray, List.getElem?_cons_succ, List.getElem?_cons_zero]; rfl) (by decide +kernel) (by decide +kernel) (by decide +kernel) (by exact fun _ _ _ _ h => h) hS (by rfl) ?_
                      apply Exists.intro
                      refine ⟨fun w' hSw => ?_, ?_⟩
                      · obtain ⟨q1, q2, _⟩ := hSw
                        have hcv := conv_bytes (c := c) q1
                        go_simp
                        with_reducible rfl
                      (try simp only [act_put, act_put_none, List.set_cons_zero, List.set_cons_succ])
                      refine held_take (i := 29) (by simp only [List.getElem?_toArray, List.getElem?_cons_succ, List.getElem?_cons_zero]; rfl) (by decide +kernel) (by decide +kernel) (by decide +kernel) (by exact fun _ _ _ _ h => h) hS (by rfl) ?_
                      apply Exists.intro
                      refine ⟨fun w' hSw => ?_, ?_⟩
                      · obtain ⟨q1, q2, _⟩ := hSw
                        go_simp
                        with_reducible rfl
                      (try simp only [act_put, act_put_none, List.set_cons_zero, List.set_cons_succ])
                      refine held_take (i := 30) (by simp only [List.getElem?_toArray, List.getElem?_cons_succ, List.getElem?_cons_zero]; rfl) (by decide +kernel) (by decide +kernel) (by decide +kernel) (by exact fun _ _ _ _ h => h) hS (by rfl) ?_
                      apply Exists.intro
                      refine ⟨fun w' hSw => ?_, ?_⟩
                      · obtain ⟨q1, q2, _⟩ := hSw
                        go_simp
                        with_reducible rfl
                      (try simp only [act_put, act_put_none, List.set_cons_zero, List.set_cons_succ])
                      refine held_take (i := 31) (by simp only [List.getElem?_toArray, List.getElem?_cons_succ, List.getElem?_cons_zero]; rfl) (by decide +kernel) (by decide +kernel) (by decide +kernel) (by exact fun _ _ _ _ h => h) hS (by rfl) ?_
                      apply Exists.intro
                      refine ⟨fun w' hSw => ?_, ?_⟩
                      · obtain ⟨q1, q2, _⟩ := hSw
                        go_simp
                        with_reducible rfl
                      (try simp only [act_put, act_put_none, List.set_cons_zero, List.set_cons_succ])
                      refine wpAnyH_ready (rs := [32]) (by decide +kernel) (by simp) ?_
                      refine AllReadyH.cons (i := 32) (by simp only [List.getElem?_toArray, List.getElem?_cons_succ, List.getElem?_cons_zero]; rfl) (fun K hK => ?_) ?_
                      · go_simp
                        go_at_call 8
                        refine (awake8 _).mono ?_
                        rintro e v5 ⟨rfl, hb⟩
                        have HX := Lib.hid hb
                        clear hb
                        go_simp
                        refine hK.out _ _ ⟨hS.1.below HX.out, hS.2.1.below HX.out, Lib.hid (bthen hS.2.2.out HX.out)⟩ (fun hS2 => ?_)
                        clear hS hK K HX
                        have hS := hS2
                        clear hS2
                        (try simp only [act_put, act_put_none, List.set_cons_zero, List.set_cons_succ])
                        refine held_take (i := 33) (by simp only [List.getElem?_toArray, List.getElem?_cons_succ, List.getElem?_cons_zero]; rfl) (by decide +kernel) (by decide +kernel) (by decide +kernel) (by exact fun _ _ _ _ h => h) hS (by rfl) ?_
                        apply Exists.intro
                        refine ⟨fun w' hSw => ?_, ?_⟩
                        · obtain ⟨q1, q2, _⟩ := hSw
                          go_simp
                          with_reducible rfl
                        (try simp only [act_put, act_put_none, List.set_cons_zero, List.set_cons_succ])
                        refine held_take (i := 34) (by simp only [List.getElem?_toArray, List.getElem?_cons_succ, List.getElem?_cons_zero]; rfl) (by decide +kernel) (by decide +kernel) (by decide +kernel) (by exact fun _ _ _ _ h => h) hS (by rfl) ?_
                        apply Exists.intro
                        refine ⟨fun w' hSw => ?_, ?_⟩
                        · obtain ⟨q1, q2, _⟩ := hSw
                          go_simp
                          with_reducible rfl
                        (try simp only [act_put, act_put_none, List.set_cons_zero, List.set_cons_succ])
                        refine wpAnyH_done (by decide +kernel) ?_ _
                        have HS := Lib.hid hS.2.2.out
                        clear hS
                        go_wp2_with fail
                        go_ret
                        exact ⟨rfl, HS.out⟩
                      exact AllReadyH.nil
                    exact AllReadyH.nil
                  refine AllReadyH.cons (i := 20) (by simp only [List.getElem?_toArray, List.getElem?_cons_succ, List.getElem?_cons_zero]; rfl) (fun K hK => ?_) ?_
                  · have hcv := conv_bytes (c := d4) i4
                    go_simp
                    refine hK.out _ _ hS (fun hS2 => ?_)
                    clear hK K hS2 hcv i4
                    (try simp only [act_put, act_put_none, List.set_cons_zero, List.set_cons_succ])
                    refine held_take (i := 21) (by simp only [List.getElem?_toArray, List.getElem?_cons_succ, List.getElem?_cons_zero]; rfl) (by decide +kernel) (by decide +kernel) (by decide +kernel) (by exact fun _ _ _ _ h => h) hS (by rfl) ?_
                    apply Exists.intro
                    refine ⟨fun w' hSw => ?_, ?_⟩
                    · obtain ⟨q1, q2, _⟩ := hSw
                      go_simp
                      with_reducible rfl
                    (try simp only [act_put, act_put_none, List.set_cons_zero, List.set_cons_succ])
                    refine wpAnyH_ready (rs := [15]) (by decide +kernel) (by simp) ?_
                    refine AllReadyH.cons (i := 15) (by simp only [List.getElem?_toArray, List.getElem?_cons_succ, List.getElem?_cons_zero]; rfl) (fun K hK => ?_) ?_
                    · have hcv := conv_bytes (c := d3) i3
                      go_simp
                      refine hK.out _ _ hS (fun hS2 => ?_)
                      clear hK K hS2 hcv i3
                      (try simp only [act_put, act_put_none, List.set_cons_zero, List.set_cons_succ])
                      refine held_take (i := 22) (by simp only [List.getElem?_toArray, List.getElem?_cons_succ, List.getElem?_cons_zero]; rfl) (by decide +kernel) (by decide +kernel) (by decide +kernel) (by exact fun _ _ _ _ h => h) hS (by rfl) ?_
                      apply Exists.intro
                      refine ⟨fun w' hSw => ?_, ?_⟩
                      · obtain ⟨q1, q2, _⟩ := hSw
                        go_simp
                        with_reducible rfl
                      (try simp only [act_put, act_put_none, List.set_cons_zero, List.set_cons_succ])
                      refine held_take (i := 23) (by simp only [List.getElem?_toArray, List.getElem?_cons_succ, List.getElem?_cons_zero]; rfl) (by decide +kernel) (by decide +kernel) (by decide +kernel) (by exact fun _ _ _ _ h => h) hS (by rfl) ?_
                      apply Exists.intro
                      refine ⟨fun w' hSw => ?_, ?_⟩
                      · obtain ⟨q1, q2, _⟩ := hSw
                        go_simp
                        with_reducible rfl
                      (try simp only [act_put, act_put_none, List.set_cons_zero, List.set_cons_succ])
                      refine held_take (i := 24) (by simp only [List.getElem?_toArray, List.getElem?_cons_succ, List.getElem?_cons_zero]; rfl) (by decide +kernel) (by decide +kernel) (by decide +kernel) (by exact fun _ _ _ _ h => h) hS (by rfl) ?_
                      apply Exists.intro
                      refine ⟨fun w' hSw => ?_, ?_⟩
                      · obtain ⟨q1, q2, _⟩ := hSw
                        go_simp
                        with_reducible rfl
                      (try simp only [act_put, act_put_none, List.set_cons_zero, List.set_cons_succ])
                      refine held_take (i := 25) (by simp only [List.getElem?_toArray, List.getElem?_cons_succ, List.getElem?_cons_zero]; rfl) (by decide +kernel) (by decide +kernel) (by decide +kernel) (by exact fun _ _ _ _ h => h) hS (by rfl) ?_
                      apply Exists.intro
                      refine ⟨fun w' hSw => ?_, ?_⟩
                      · obtain ⟨q1, q2, _⟩ := hSw
                        go_simp
                        with_reducible rfl
                      (try simp only [act_put, act_put_none, List.set_cons_zero, List.set_cons_succ])
                      refine held_take (i := 26) (by simp only [List.getElem?_toArray, List.getElem?_cons_succ, List.getElem?_cons_zero]; rfl) (by decide +kernel) (by decide +kernel) (by decide +kernel) (by exact fun _ _ _ _ h => h) hS (by rfl) ?_
                      apply Exists.intro
                      refine ⟨fun w' hSw => ?_, ?_⟩
                      · obtain ⟨q1, q2, _⟩ := hSw
                        have hcv := conv_bytes (c := c7) q2
                        go_simp
                        with_reducible rfl
                      (try simp only [act_put, act_put_none, List.set_cons_zero, List.set_cons_succ])
                      refine held_take (i := 27) (by simp only [List.getElem?_toArray, List.getElem?_cons_succ, List.getElem?_cons_zero]; rfl) (by decide +kernel) (by decide +kernel) (by decide +kernel) (by exact fun _ _ _ _ h => h) hS (by rfl) ?_
                      apply Exists.intro
                      refine ⟨fun w' hSw => ?_, ?_⟩
                      · obtain ⟨q1, q2, _⟩ := hSw
                        go_simp
                        with_reducible rfl
                      (try simp only [act_put, act_put_none, List.set_cons_zero, List.set_cons_succ])
                      refine held_take (i := 28) (by simp only [List.getElem?_toArray, List.getElem?_cons_succ, List.getElem?_cons_zero]; rfl) (by decide +kernel) (by decide +kernel) (by decide +kernel) (by exact fun _ _ _ _ h => h) hS (by rfl) ?_
                      apply Exists.intro
                      refine ⟨fun w' hSw => ?_, ?_⟩
                      · obtain ⟨q1, q2, _⟩ := hSw
                        have hcv := conv_bytes (c := c) q1
                        go_simp
                        with_reducible rfl
                      (try simp only [act_put, act_put_none, List.set_cons_zero, List.set_cons_succ])
                      refine held_take (i := 29) (by simp only [List.getElem?_toArray, List.getElem?_cons_succ, List.getElem?_cons_zero]; rfl) (by decide +kernel) (by decide +kernel) (by decide +kernel) (by exact fun _ _ _ _ h => h) hS (by rfl) ?_
                      apply Exists.intro
                      refine ⟨fun w' hSw => ?_, ?_⟩
                      · obtain ⟨q1, q2, _⟩ := hSw
                        go_simp
                        with_reducible rfl
                      (try simp only [act_put, act_put_none, List.set_cons_zero, List.set_cons_succ])
                      refine held_take (i := 30) (by simp only [List.getElem?_toArray, List.getElem?_cons_succ, List.getElem?_cons_zero]; rfl) (by decide +kernel) (by decide +kernel) (by decide +kernel) (by exact fun _ _ _ _ h => h) hS (by rfl) ?_
                      apply Exists.intro
                      refine ⟨fun w' hSw => ?_, ?_⟩
                      · obtain ⟨q1, q2, _⟩ := hSw
                        go_simp
                        with_reducible rfl
                      (try simp only [act_put, act_put_none, List.set_cons_zero, List.set_cons_succ])
                      refine held_take (i := 31) (by simp only [List.getElem?_toArray, List.getElem?_cons_succ, List.getElem?_cons_zero]; rfl) (by decide +kernel) (by decide +kernel) (by decide +kernel) (by exact fun _ _ _ _ h => h) hS (by rfl) ?_
                      apply Exists.intro
                      refine ⟨fun w' hSw => ?_, ?_⟩
                      · obtain ⟨q1, q2, _⟩ := hSw
                        go_simp
                        with_reducible rfl
                      (try simp only [act_put, act_put_none, List.set_cons_zero, List.set_cons_succ])
                      refine wpAnyH_ready (rs := [32]) (by decide +kernel) (by simp) ?_
                      refine AllReadyH.cons (i := 32) (by simp only [List.getElem?_toArray, List.getElem?_cons_succ, List.getElem?_cons_zero]; rfl) (fun K hK => ?_) ?_
                      · go_simp
                        go_at_call 8
                        refine (awake8 _).mono ?_
                        rintro e v5 ⟨rfl, hb⟩
                        have HX := Lib.hid hb
                        clear hb
                        go_simp
                        refine hK.out _ _ ⟨hS.1.below HX.out, hS.2.1.below HX.out, Lib.hid (bthen hS.2.2.out HX.out)⟩ (fun hS2 => ?_)
                        clear hS hK K HX
                        have hS := hS2
                        clear hS2
                        (try simp only [act_put, act_put_none, List.set_cons_zero, List.set_cons_succ])
                        refine held_take (i := 33) (by simp only [List.getElem?_toArray, List.getElem?_cons_succ, List.getElem?_cons_zero]; rfl) (by decide +kernel) (by decide +kernel) (by decide +kernel) (by exact fun _ _ _ _ h => h) hS (by rfl) ?_
                        apply Exists.intro
                        refine ⟨fun w' hSw => ?_, ?_⟩
                        · obtain ⟨q1, q2, _⟩ := hSw
                          go_simp
                          with_reducible rfl
                        (try simp only [act_put, act_put_none, List.set_cons_zero, List.set_cons_succ])
                        refine held_take (i := 34) (by simp only [List.getElem?_toArray, List.getElem?_cons_succ, List.getElem?_cons_zero]; rfl) (by decide +kernel) (by decide +kernel) (by decide +kernel) (by exact fun _ _ _ _ h => h) hS (by rfl) ?_
                        apply Exists.intro
                        refine ⟨fun w' hSw => ?_, ?_⟩
                        · obtain ⟨q1, q2, _⟩ := hSw
                          go_simp
                          with_reducible rfl
                        (try simp only [act_put, act_put_none, List.set_cons_zero, List.set_cons_succ])
                        refine wpAnyH_done (by decide +kernel) ?_ _
                        have HS := Lib.hid hS.2.2.out
                        clear hS
                        go_wp2_with fail
                        go_ret
                        exact ⟨rfl, HS.out⟩
                      exact AllReadyH.nil
                    exact AllReadyH.nil
                  exact AllReadyH.nil
                exact AllReadyH.nil
              exact AllReadyH.nil
            exact AllReadyH.nil
          exact AllReadyH.nil
        refine AllReadyH.cons (i := 7) (by simp only [List.getElem?_toArray, List.getElem?_cons_succ, List.getElem?_cons_zero]; rfl) (fun K hK => ?_) ?_
        · go_simp
          go_at_call 14
          refine (HC2.out _ ).mono ?_
          rintro e v2 ⟨x2, rfl, hown, hb⟩
          obtain ⟨B2, d2, rfl, i2, _, _, _⟩ := hown.isBy
          have HX := Lib.hid hb
          clear hb hown
          have i1 := i1.below HX.out
          go_simp
          refine hK.out _ _ ⟨hS.1.below HX.out, hS.2.1.below HX.out, Lib.hid (bthen hS.2.2.out HX.out)⟩ (fun hS2 => ?_)
          clear hS hK K HX
          have hS := hS2
          clear hS2
          (try simp only [act_put, act_put_none, List.set_cons_zero, List.set_cons_succ])
          refine wpAnyH_ready (rs := [3, 8]) (by decide +kernel) (by simp) ?_
          refine AllReadyH.cons (i := 3) (by simp only [List.getElem?_toArray, List.getElem?_cons_succ, List.getElem?_cons_zero]; rfl) (fun K hK => ?_) ?_
          · have hcv := conv_bytes (c := d1) i1
            go_simp
            refine hK.out _ _ hS (fun hS2 => ?_)
            clear hK K hS2 hcv i1
            (try simp only [act_put, act_put_none, List.set_cons_zero, List.set_cons_succ])
            refine wpAnyH_ready (rs := [8]) (by decide +kernel) (by simp) ?_
            refine AllReadyH.cons (i := 8) (by simp only [List.getElem?_toArray, List.getElem?_cons_succ, List.getElem?_cons_zero]; rfl) (fun K hK => ?_) ?_
            · have hcv := conv_bytes (c := d2) i2
              go_simp
              refine hK.out _ _ hS (fun hS2 => ?_)
              clear hK K hS2 hcv i2
              (try simp only [act_put, act_put_none, List.set_cons_zero, List.set_cons_succ])
              refine held_take (i := 9) (by simp only [List.getElem?_toArray, List.getElem?_cons_succ, List.getElem?_cons_zero]; rfl) (by decide +kernel) (by decide +kernel) (by decide +kernel) (by exact fun _ _ _ _ h => h) hS (by rfl) ?_
              apply Exists.intro
              refine ⟨fun w' hSw => ?_, ?_⟩
              · obtain ⟨q1, q2, _⟩ := hSw
                go_simp
                with_reducible rfl
              (try simp only [act_put, act_put_none, List.set_cons_zero, List.set_cons_succ])
              refine held_take (i := 10) (by simp only [List.getElem?_toArray, List.getElem?_cons_succ, List.getElem?_cons_zero]; rfl) (by decide +kernel) (by decide +kernel) (by decide +kernel) (by exact fun _ _ _ _ h => h) hS (by rfl) ?_
              apply Exists.intro
              refine ⟨fun w' hSw => ?_, ?_⟩
              · obtain ⟨q1, q2, _⟩ := hSw
                go_simp
                with_reducible rfl
              (try simp only [act_put, act_put_none, List.set_cons_zero, List.set_cons_succ])
              refine held_take (i := 11) (by simp only [List.getElem?_toArray, List.getElem?_cons_succ, List.getElem?_cons_zero]; rfl) (by decide +kernel) (by decide +kernel) (by decide +kernel) (by exact fun _ _ _ _ h => h) hS (by rfl) ?_
              apply Exists.intro
              refine ⟨fun w' hSw => ?_, ?_⟩
              · obtain ⟨q1, q2, _⟩ := hSw
                go_simp
                with_reducible rfl
              (try simp only [act_put, act_put_none, List.set_cons_zero, List.set_cons_succ])
              refine held_take (i := 12) (by simp only [List.getElem?_toArray, List.getElem?_cons_succ, List.getElem?_cons_zero]; rfl) (by decide +kernel) (by decide +kernel) (by decide +kernel) (by exact fun _ _ _ _ h => h) hS (by rfl) ?_
              apply Exists.intro
              refine ⟨fun w' hSw => ?_, ?_⟩
              · obtain ⟨q1, q2, _⟩ := hSw
                go_simp
                with_reducible rfl
              (try simp only [act_put, act_put_none, List.set_cons_zero, List.set_cons_succ])
              refine held_take (i := 13) (by simp only [List.getElem?_toArray, List.getElem?_cons_succ, List.getElem?_cons_zero]; rfl) (by decide +kernel) (by decide +kernel) (by decide +kernel) (by exact fun _ _ _ _ h => h) hS (by rfl) ?_
              apply Exists.intro
              refine ⟨fun w' hSw => ?_, ?_⟩
              · obtain ⟨q1, q2, _⟩ := hSw
                go_simp
                with_reducible rfl
              (try simp only [act_put, act_put_none, List.set_cons_zero, List.set_cons_succ])
              refine held_take (i := 16) (by simp only [List.getElem?_toArray, List.getElem?_cons_succ, List.getElem?_cons_zero]; rfl) (by decide +kernel) (by decide +kernel) (by decide +kernel) (by exact fun _ _ _ _ h => h) hS (by rfl) ?_
              apply Exists.intro
              refine ⟨fun w' hSw => ?_, ?_⟩
              · obtain ⟨q1, q2, _⟩ := hSw
                go_simp
                with_reducible rfl
              (try simp only [act_put, act_put_none, List.set_cons_zero, List.set_cons_succ])
              refine held_take (i := 17) (by simp only [List.getElem?_toArray, List.getElem?_cons_succ, List.getElem?_cons_zero]; rfl) (by decide +kernel) (by decide +kernel) (by decide +kernel) (by exact fun _ _ _ _ h => h) hS (by rfl) ?_
              apply Exists.intro
              refine ⟨fun w' hSw => ?_, ?_⟩
              · obtain ⟨q1, q2, _⟩ := hSw
                have hcv := conv_bytes (c := c) q1
                go_simp
                with_reducible rfl
              (try simp only [act_put, act_put_none, List.set_cons_zero, List.set_cons_succ])
              refine held_take (i := 18) (by simp only [List.getElem?_toArray, List.getElem?_cons_succ, List.getElem?_cons_zero]; rfl) (by decide +kernel) (by decide +kernel) (by decide +kernel) (by exact fun _ _ _ _ h => h) hS (by rfl) ?_
              apply Exists.intro
              refine ⟨fun w' hSw => ?_, ?_⟩
              · obtain ⟨q1, q2, _⟩ := hSw
                go_simp
                with_reducible rfl
              (try simp only [act_put, act_put_none, List.set_cons_zero, List.set_cons_succ])
              refine wpAnyH_ready (rs := [14]) (by decide +kernel) (by simp) ?_
              refine AllReadyH.cons (i := 14) (by simp only [List.getElem?_toArray, List.getElem?_cons_succ, List.getElem?_cons_zero]; rfl) (fun K hK => ?_) ?_
              · go_simp
                go_at_call 15
                refine (HC3.out _ (hS.2.1)).mono ?_
                rintro e v3 ⟨x3, rfl, hown, hb⟩
                obtain ⟨B3, d3, rfl, i3, _, _, _⟩ := hown.isBy
                have HX := Lib.hid hb
                clear hb hown
                go_simp
                refine hK.out _ _ ⟨hS.1.below HX.out, hS.2.1.below HX.out, Lib.hid (bthen hS.2.2.out HX.out)⟩ (fun hS2 => ?_)
                clear hS hK K HX
                have hS := hS2
                clear hS2
                (try simp only [act_put, act_put_none, List.set_cons_zero, List.set_cons_succ])
                refine wpAnyH_ready (rs := [15, 19]) (by decide +kernel) (by simp) ?_
                refine AllReadyH.cons (i := 15) (by simp only [List.getElem?_toArray, List.getElem?_cons_succ, List.getElem?_cons_zero]; rfl) (fun K hK => ?_) ?_
                · have hcv := conv_bytes (c := d3) i3
                  go_simp
                  refine hK.out _ _ hS (fun hS2 => ?_)
                  clear hK K hS2 hcv i3
                  (try simp only [act_put, act_put_none, List.set_cons_zero, List.set_cons_succ])
                  refine wpAnyH_ready (rs := [19]) (by decide +kernel) (by simp) ?_
                  refine AllReadyH.cons (i := 19) (by simp only [List.getElem?_toArray, List.getElem?_cons_succ, List.getElem?_cons_zero]; rfl) (fun K hK => ?_) ?_
                  · go_simp
                    go_at_call 16
                    refine (HC4.out _ ).mono ?_
                    rintro e v4 ⟨x4, rfl, hown, hb⟩
                    obtain ⟨B4, d4, rfl, i4, _, _, _⟩ := hown.isBy
                    have HX := Lib.hid hb
                    clear hb hown
                    go_simp
                    refine hK.out _ _ ⟨hS.1.below HX.out, hS.2.1.below HX.out, Lib.hid (bthen hS.2.2.out HX.out)⟩ (fun hS2 => ?_)
                    clear hS hK K HX
                    have hS := hS2
                    clear hS2
                    (try simp only [act_put, act_put_none, List.set_cons_zero, List.set_cons_succ])
                    refine wpAnyH_ready (rs := [20]) (by decide +kernel) (by simp) ?_
                    refine AllReadyH.cons (i := 20) (by simp only [List.getElem?_toArray, List.getElem?_cons_succ, List.getElem?_cons_zero]; rfl) (fun K hK => ?_) ?_
                    · have hcv := conv_bytes (c := d4) i4
                      go_simp
                      refine hK.out _ _ hS (fun hS2 => ?_)
                      clear hK K hS2 hcv i4
                      (try simp only [act_put, act_put_none, List.set_cons_zero, List.set_cons_succ])
                      refine held_take (i := 21) (by simp only [List.getElem?_toArray, List.getElem?_cons_succ, List.getElem?_cons_zero]; rfl) (by decide +kernel) (by decide +kernel) (by decide +kernel) (by exact fun _ _ _ _ h => h) hS (by rfl) ?_
                      apply Exists.intro
                      refine ⟨fun w' hSw => ?_, ?_⟩
                      · obtain ⟨q1, q2, _⟩ := hSw
                        go_simp
                        with_reducible rfl
                      (try simp only [act_put, act_put_none, List.set_cons_zero, List.set_cons_succ])
                      refine held_take (i := 22) (by simp only [List.getElem?_toArray, List.getElem?_cons_succ, List.getElem?_cons_zero]; rfl) (by decide +kernel) (by decide +kernel) (by decide +kernel) (by exact fun _ _ _ _ h => h) hS (by rfl) ?_
                      apply Exists.intro
                      refine ⟨fun w' hSw => ?_, ?_⟩
                      · obtain ⟨q1, q2, _⟩ := hSw
                        go_simp
                        with_reducible rfl
                      (try simp only [act_put, act_put_none, List.set_cons_zero, List.set_cons_succ])
                      refine held_take (i := 23) (by simp only [List.getElem?_toArray, List.getElem?_cons_succ, List.getElem?_cons_zero]; rfl) (by decide +kernel) (by decide +kernel) (by decide +kernel) (by exact fun _ _ _ _ h => h) hS (by rfl) ?_
                      apply Exists.intro
                      refine ⟨fun w' hSw => ?_, ?_⟩
                      · obtain ⟨q1, q2, _⟩ := hSw
                        go_simp
                        with_reducible rfl
                      (try simp only [act_put, act_put_none, List.set_cons_zero, List.set_cons_succ])
                      refine held_take (i := 24) (by simp only [List.getElem?_toArray, List.getElem?_cons_succ, List.getElem?_cons_zero]; rfl) (by decide +kernel) (by decide +kernel) (by decide +kernel) (by exact fun _ _ _ _ h => h) hS (by rfl) ?_
                      apply Exists.intro
                      refine ⟨fun w' hSw => ?_, ?_⟩
                      · obtain ⟨q1, q2, _⟩ := hSw
                        go_simp
                        with_reducible rfl
                      (try simp only [act_put, act_put_none, List.set_cons_zero, List.set_cons_succ])
                      refine held_take (i := 25) (by simp only [List.getElem?_toArray, List.getElem?_cons_succ, List.getElem?_cons_zero]; rfl) (by decide +kernel) (by decide +kernel) (by decide +kernel) (by exact fun _ _ _ _ h => h) hS (by rfl) ?_
                      apply Exists.intro
                      refine ⟨fun w' hSw => ?_, ?_⟩
                      · obtain ⟨q1, q2, _⟩ := hSw
                        go_simp
                        with_reducible rfl
                      (try simp only [act_put, act_put_none, List.set_cons_zero, List.set_cons_succ])
                      refine held_take (i := 26) (by simp only [List.getElem?_toArray, List.getElem?_cons_succ, List.getElem?_cons_zero]; rfl) (by decide +kernel) (by decide +kernel) (by decide +kernel) (by exact fun _ _ _ _ h => h) hS (by rfl) ?_
                      apply Exists.intro
                      refine ⟨fun w' hSw => ?_, ?_⟩
                      · obtain ⟨q1, q2, _⟩ := hSw
                        have hcv := conv_bytes (c := c7) q2
                        go_simp
                        with_reducible rfl
                      (try simp only [act_put, act_put_none, List.set_cons_zero, List.set_cons_succ])
                      refine held_take (i := 27) (by simp only [List.getElem?_toArray, List.getElem?_cons_succ, List.getElem?_cons_zero]; rfl) (by decide +kernel) (by decide +kernel) (by decide +kernel) (by exact fun _ _ _ _ h => h) hS (by rfl) ?_
                      apply Exists.intro
                      refine ⟨fun w' hSw => ?_, ?_⟩
                      · obtain ⟨q1, q2, _⟩ := hSw
                        go_simp
                        with_reducible rfl
                      (try simp only [act_put, act_put_none, List.set_cons_zero, List.set_cons_succ])
                      refine held_take (i := 28) (by simp only [List.getElem?_toArray, List.getElem?_cons_succ, List.getElem?_cons_zero]; rfl) (by decide +kernel) (by decide +kernel) (by decide +kernel) (by exact fun _ _ _ _ h => h) hS (by rfl) ?_
                      apply Exists.intro
                      refine ⟨fun w' hSw => ?_, ?_⟩
                      · obtain ⟨q1, q2, _⟩ := hSw
                        have hcv := conv_bytes (c := c) q1
                        go_simp
                        with_reducible rfl
                      (try simp only [act_put, act_put_none, List.set_cons_zero, List.set_cons_succ])
                      refine held_take (i := 29) (by simp only [List.getElem?_toArray, List.getElem?_cons_succ, List.getElem?_cons_zero]; rfl) (by decide +kernel) (by decide +kernel) (by decide +kernel) (by exact fun _ _ _ _ h => h) hS (by rfl) ?_
                      apply Exists.intro
                      refine ⟨fun w' hSw => ?_, ?_⟩
                      · obtain ⟨q1, q2, _⟩ := hSw
                        go_simp
                        with_reducible rfl
                      (try simp only [act_put, act_put_none, List.set_cons_zero, List.set_cons_succ])
                      refine held_take (i := 30) (by simp only [List.getElem?_toArray, List.getElem?_cons_succ, List.getElem?_cons_zero]; rfl) (by decide +kernel) (by decide +kernel) (by decide +kernel) (by exact fun _ _ _ _ h => h) hS (by rfl) ?_
                      apply Exists.intro
                      refine ⟨fun w' hSw => ?_, ?_⟩
                      · obtain ⟨q1, q2, _⟩ := hSw
                        go_simp
                        with_reducible rfl
                      (try simp only [act_put, act_put_none, List.set_cons_zero, List.set_cons_succ])
                      refine held_take (i := 31) (by simp only [List.getElem?_toArray, List.getElem?_cons_succ, List.getElem?_cons_zero]; rfl) (by decide +kernel) (by decide +kernel) (by decide +kernel) (by exact fun _ _ _ _ h => h) hS (by rfl) ?_
                      apply Exists.intro
                      refine ⟨fun w' hSw => ?_, ?_⟩
                      · obtain ⟨q1, q2, _⟩ := hSw
                        go_simp
                        with_reducible rfl
                      (try simp only [act_put, act_put_none, List.set_cons_zero, List.set_cons_succ])
                      refine wpAnyH_ready (rs := [32]) (by decide +kernel) (by simp) ?_
                      refine AllReadyH.cons (i := 32) (by simp only [List.getElem?_toArray, List.getElem?_cons_succ, List.getElem?_cons_zero]; rfl) (fun K hK => ?_) ?_
                      · go_simp
                        go_at_call 8
                        refine (awake8 _).mono ?_
                        rintro e v5 ⟨rfl, hb⟩
                        have HX := Lib.hid hb
                        clear hb
                        go_simp
                        refine hK.out _ _ ⟨hS.1.below HX.out, hS.2.1.below HX.out, Lib.hid (bthen hS.2.2.out HX.out)⟩ (fun hS2 => ?_)
                        clear hS hK K HX
                        have hS := hS2
                        clear hS2
                        (try simp only [act_put, act_put_none, List.set_cons_zero, List.set_cons_succ])
                        refine held_take (i := 33) (by simp only [List.getElem?_toArray, List.getElem?_cons_succ, List.getElem?_cons_zero]; rfl) (by decide +kernel) (by decide +kernel) (by decide +kernel) (by exact fun _ _ _ _ h => h) hS (by rfl) ?_
                        apply Exists.intro
                        refine ⟨fun w' hSw => ?_, ?_⟩
                        · obtain ⟨q1, q2, _⟩ := hSw
                          go_simp
                          with_reducible rfl
                        (try simp only [act_put, act_put_none, List.set_cons_zero, List.set_cons_succ])
                        refine held_take (i := 34) (by simp only [List.getElem?_toArray, List.getElem?_cons_succ, List.getElem?_cons_zero]; rfl) (by decide +kernel) (by decide +kernel) (by decide +kernel) (by exact fun _ _ _ _ h => h) hS (by rfl) ?_
                        apply Exists.intro
                        refine ⟨fun w' hSw => ?_, ?_⟩
                        · obtain ⟨q1, q2, _⟩ := hSw
                          go_simp
                          with_reducible rfl
                        (try simp only [act_put, act_put_none, List.set_cons_zero, List.set_cons_succ])
                        refine wpAnyH_done (by decide +kernel) ?_ _
                        have HS := Lib.hid hS.2.2.out
                        clear hS
                        go_wp2_with fail
                        go_ret
                        exact ⟨rfl, HS.out⟩
                      exact AllReadyH.nil
                    exact AllReadyH.nil
                  exact AllReadyH.nil
                refine AllReadyH.cons (i := 19) (by simp only [List.getElem?_toArray, List.getElem?_cons_succ, List.getElem?_cons_zero]; rfl) (fun K hK => ?_) ?_
                · go_simp
                  go_at_call 16
                  refine (HC4.out _ ).mono ?_
                  rintro e v4 ⟨x4, rfl, hown, hb⟩
                  obtain ⟨B4, d4, rfl, i4, _, _, _⟩ := hown.isBy
                  have HX := Lib.hid hb
                  clear hb hown
                  have i3 := i3.below HX.out
                  go_simp
                  refine hK.out _ _ ⟨hS.1.below HX.out, hS.2.1.below HX.out, Lib.hid (bthen hS.2.2.out HX.out)⟩ (fun hS2 => ?_)
                  clear hS hK K HX
                  have hS := hS2
                  clear hS2
                  (try simp only [act_put, act_put_none, List.set_cons_zero, List.set_cons_succ])
                  refine wpAnyH_ready (rs := [15, 20]) (by decide +kernel) (by simp) ?_
                  refine AllReadyH.cons (i := 15) (by simp only [List.getElem?_toArray, List.getElem?_cons_succ, List.getElem?_cons_zero]; rfl) (fun K hK => ?_) ?_
                  · have hcv := conv_bytes (c := d3) i3
                    go_simp
                    refine hK.out _ _ hS (fun hS2 => ?_)
                    clear hK K hS2 hcv i3
                    (try simp only [act_put, act_put_none, List.set_cons_zero, List.set_cons_succ])
                    refine wpAnyH_ready (rs := [20]) (by decide +kernel) (by simp) ?_
                    refine AllReadyH.cons (i := 20) (by simp only [List.getElem?_toArray, List.getElem?_cons_succ, List.getElem?_cons_zero]; rfl) (fun K hK => ?_) ?_
                    · have hcv := conv_bytes (c := d4) i4
                      go_simp
                      refine hK.out _ _ hS (fun hS2 => ?_)
                      clear hK K hS2 hcv i4
                      (try simp only [act_put, act_put_none, List.set_cons_zero, List.set_cons_succ])
                      refine held_take (i := 21) (by simp only [List.getElem?_toArray, List.getElem?_cons_succ, List.getElem?_cons_zero]; rfl) (by decide +kernel) (by decide +kernel) (by decide +kernel) (by exact fun _ _ _ _ h => h) hS (by rfl) ?_
                      apply Exists.intro
                      refine ⟨fun w' hSw => ?_, ?_⟩
                      · obtain ⟨q1, q2, _⟩ := hSw
                        go_simp
                        with_reducible rfl
                      (try simp only [act_put, act_put_none, List.set_cons_zero, List.set_cons_succ])
                      refine held_take (i := 22) (by simp only [List.getElem?_toArray, List.getElem?_cons_succ, List.getElem?_cons_zero]; rfl) (by decide +kernel) (by decide +kernel) (by decide +kernel) (by exact fun _ _ _ _ h => h) hS (by rfl) ?_
                      apply Exists.intro
                      refine ⟨fun w' hSw => ?_, ?_⟩
                      · obtain ⟨q1, q2, _⟩ := hSw
                        go_simp
                        with_reducible rfl
                      (try simp only [act_put, act_put_none, List.set_cons_zero, List.set_cons_succ])
                      refine held_take (i := 23) (by simp only [List.getElem?_toArray, List.getElem?_cons_succ, List.getElem?_cons_zero]; rfl) (by decide +kernel) (by decide +kernel) (by decide +kernel) (by exact fun _ _ _ _ h => h) hS (by rfl) ?_
                      apply Exists.intro
                      refine ⟨fun w' hSw => ?_, ?_⟩
                      · obtain ⟨q1, q2, _⟩ := hSw
                        go_simp
                        with_reducible rfl
                      (try simp only [act_put, act_put_none, List.set_cons_zero, List.set_cons_succ])
                      refine held_take (i := 24) (by simp only [List.getElem?_toArray, List.getElem?_cons_succ, List.getElem?_cons_zero]; rfl) (by decide +kernel) (by decide +kernel) (by decide +kernel) (by exact fun _ _ _ _ h => h) hS (by rfl) ?_
                      apply Exists.intro
                      refine ⟨fun w' hSw => ?_, ?_⟩
                      · obtain ⟨q1, q2, _⟩ := hSw
                        go_simp
                        with_reducible rfl
                      (try simp only [act_put, act_put_none, List.set_cons_zero, List.set_cons_succ])
                      refine held_take (i := 25) (by simp only [List.getElem?_toArray, List.getElem?_cons_succ, List.getElem?_cons_zero]; rfl) (by decide +kernel) (by decide +kernel) (by decide +kernel) (by exact fun _ _ _ _ h => h) hS (by rfl) ?_
                      apply Exists.intro
                      refine ⟨fun w' hSw => ?_, ?_⟩
                      · obtain ⟨q1, q2, _⟩ := hSw
                        go_simp
                        with_reducible rfl
                      (try simp only [act_put, act_put_none, List.set_cons_zero, List.set_cons_succ])
                      refine held_take (i := 26) (by simp only [List.getElem?_toArray, List.getElem?_cons_succ, List.getElem?_cons_zero]; rfl) (by decide +kernel) (by decide +kernel) (by decide +kernel) (by exact fun _ _ _ _ h => h) hS (by rfl) ?_
                      apply Exists.intro
                      refine ⟨fun w' hSw => ?_, ?_⟩
                      · obtain ⟨q1, q2, _⟩ := hSw
                        have hcv := conv_bytes (c := c7) q2
                        go_simp
                        with_reducible rfl
                      (try simp only [act_put, act_put_none, List.set_cons_zero, List.set_cons_succ])
                      refine held_take (i := 27) (by simp only [List.getElem?_toArray, List.getElem?_cons_succ, List.getElem?_cons_zero]; rfl) (by decide +kernel) (by decide +kernel) (by decide +kernel) (by exact fun _ _ _ _ h => h) hS (by rfl) ?_
                      apply Exists.intro
                      refine ⟨fun w' hSw => ?_, ?_⟩
                      · obtain ⟨q1, q2, _⟩ := hSw
                        go_simp
                        with_reducible rfl
                      (try simp only [act_put, act_put_none, List.set_cons_zero, List.set_cons_succ])
                      refine held_take (i := 28) (by simp only [List.getElem?_toArray, List.getElem?_cons_succ, List.getElem?_cons_zero]; rfl) (by decide +kernel) (by decide +kernel) (by decide +kernel) (by exact fun _ _ _ _ h => h) hS (by rfl) ?_
                      apply Exists.intro
                      refine ⟨fun w' hSw => ?_, ?_⟩
                      · obtain ⟨q1, q2, _⟩ := hSw
                        have hcv := conv_bytes (c := c) q1
                        go_simp
                        with_reducible rfl
                      (try simp only [act_put, act_put_none, List.set_cons_zero, List.set_cons_succ])
                      refine held_take (i := 29) (by simp only [List.getElem?_toArray, List.getElem?_cons_succ, List.getElem?_cons_zero]; rfl) (by decide +kernel) (by decide +kernel) (by decide +kernel) (by exact fun _ _ _ _ h => h) hS (by rfl) ?_
                      apply Exists.intro
                      refine ⟨fun w' hSw => ?_, ?_⟩
                      · obtain ⟨q1, q2, _⟩ := hSw
                        go_simp
                        with_reducible rfl
                      (try simp only [act_put, act_put_none, List.set_cons_zero, List.set_cons_succ])
                      refine held_take (i := 30) (by simp only [List.getElem?_toArray, List.getElem?_cons_succ, List.getElem?_cons_zero]; rfl) (by decide +kernel) (by decide +kernel) (by decide +kernel) (by exact fun _ _ _ _ h => h) hS (by rfl) ?_
                      apply Exists.intro
                      refine ⟨fun w' hSw => ?_, ?_⟩
                      · obtain ⟨q1, q2, _⟩ := hSw
                        go_simp
                        with_reducible rfl
                      (try simp only [act_put, act_put_none, List.set_cons_zero, List.set_cons_succ])
                      refine held_take (i := 31) (by simp only [List.getElem?_toArray, List.getElem?_cons_succ, List.getElem?_cons_zero]; rfl) (by decide +kernel) (by decide +kernel) (by decide +kernel) (by exact fun _ _ _ _ h => h) hS (by rfl) ?_
                      apply Exists.intro
                      refine ⟨fun w' hSw => ?_, ?_⟩
                      · obtain ⟨q1, q2, _⟩ := hSw
                        go_simp
                        with_reducible rfl
                      (try simp only [act_put, act_put_none, List.set_cons_zero, List.set_cons_succ])
                      refine wpAnyH_ready (rs := [32]) (by decide +kernel) (by simp) ?_
                      refine AllReadyH.cons (i := 32) (by simp only [List.getElem?_toArray, List.getElem?_cons_succ, List.getElem?_cons_zero]; rfl) (fun K hK => ?_) ?_
                      · go_simp
                        go_at_call 8
                        refine (awake8 _).mono ?_
                        rintro e v5 ⟨rfl, hb⟩
                        have HX := Lib.hid hb
                        clear hb
                        go_simp
                        refine hK.out _ _ ⟨hS.1.below HX.out, hS.2.1.below HX.out, Lib.hid (bthen hS.2.2.out HX.out)⟩ (fun hS2 => ?_)
                        clear hS hK K HX
                        have hS := hS2
                        clear hS2
                        (try simp only [act_put, act_put_none, List.set_cons_zero, List.set_cons_succ])
                        refine held_take (i := 33) (by simp only [List.getElem?_toArray, List.getElem?_cons_succ, List.getElem?_cons_zero]; rfl) (by decide +kernel) (by decide +kernel) (by decide +kernel) (by exact fun _ _ _ _ h => h) hS (by rfl) ?_
                        apply Exists.intro
                        refine ⟨fun w' hSw => ?_, ?_⟩
                        · obtain ⟨q1, q2, _⟩ := hSw
                          go_simp
                          with_reducible rfl
                        (try simp only [act_put, act_put_none, List.set_cons_zero, List.set_cons_succ])
                        refine held_take (i := 34) (by simp only [List.getElem?_toArray, List.getElem?_cons_succ, List.getElem?_cons_zero]; rfl) (by decide +kernel) (by decide +kernel) (by decide +kernel) (by exact fun _ _ _ _ h => h) hS (by rfl) ?_
                        apply Exists.intro
                        refine ⟨fun w' hSw => ?_, ?_⟩
                        · obtain ⟨q1, q2, _⟩ := hSw
                          go_simp
                          with_reducible rfl
                        (try simp only [act_put, act_put_none, List.set_cons_zero, List.set_cons_succ])
                        refine wpAnyH_done (by decide +kernel) ?_ _
                        have HS := Lib.hid hS.2.2.out
                        clear hS
                        go_wp2_with fail
                        go_ret
                        exact ⟨rfl, HS.out⟩
                      exact AllReadyH.nil
                    exact AllReadyH.nil
                  refine AllReadyH.cons (i := 20) (by simp only [List.getElem?_toArray, List.getElem?_cons_succ, List.getElem?_cons_zero]; rfl) (fun K hK => ?_) ?_
                  · have hcv := conv_bytes (c := d4) i4
                    go_simp
                    refine hK.out _ _ hS (fun hS2 => ?_)
                    clear hK K hS2 hcv i4
                    (try simp only [act_put, act_put_none, List.set_cons_zero, List.set_cons_succ])
                    refine held_take (i := 21) (by simp only [List.getElem?_toArray, List.getElem?_cons_succ, List.getElem?_cons_zero]; rfl) (by decide +kernel) (by decide +kernel) (by decide +kernel) (by exact fun _ _ _ _ h => h) hS (by rfl) ?_
                    apply Exists.intro
                    refine ⟨fun w' hSw => ?_, ?_⟩
                    · obtain ⟨q1, q2, _⟩ := hSw
                      go_simp
                      with_reducible rfl
                    (try simp only [act_put, act_put_none, List.set_cons_zero, List.set_cons_succ])
                    refine wpAnyH_ready (rs := [15]) (by decide +kernel) (by simp) ?_
                    refine AllReadyH.cons (i := 15) (by simp only [List.getElem?_toArray, List.getElem?_cons_succ, List.getElem?_cons_zero]; rfl) (fun K hK => ?_) ?_
                    · have hcv := conv_bytes (c := d3) i3
                      go_simp
                      refine hK.out _ _ hS (fun hS2 => ?_)
                      clear hK K hS2 hcv i3
                      (try simp only [act_put, act_put_none, List.set_cons_zero, List.set_cons_succ])
                      refine held_take (i := 22) (by simp only [List.getElem?_toArray, List.getElem?_cons_succ, List.getElem?_cons_zero]; rfl) (by decide +kernel) (by decide +kernel) (by decide +kernel) (by exact fun _ _ _ _ h => h) hS (by rfl) ?_
                      apply Exists.intro
                      refine ⟨fun w' hSw => ?_, ?_⟩
                      · obtain ⟨q1, q2, _⟩ := hSw
                        go_simp
                        with_reducible rfl
                      (try simp only [act_put, act_put_none, List.set_cons_zero, List.set_cons_succ])
                      refine held_take (i := 23) (by simp only [List.getElem?_toArray, List.getElem?_cons_succ, List.getElem?_cons_zero]; rfl) (by decide +kernel) (by decide +kernel) (by decide +kernel) (by exact fun _ _ _ _ h => h) hS (by rfl) ?_
                      apply Exists.intro
                      refine ⟨fun w' hSw => ?_, ?_⟩
                      · obtain ⟨q1, q2, _⟩ := hSw
                        go_simp
                        with_reducible rfl
                      (try simp only [act_put, act_put_none, List.set_cons_zero, List.set_cons_succ])
                      refine held_take (i := 24) (by simp only [List.getElem?_toArray, List.getElem?_cons_succ, List.getElem?_cons_zero]; rfl) (by decide +kernel) (by decide +kernel) (by decide +kernel) (by exact fun _ _ _ _ h => h) hS (by rfl) ?_
                      apply Exists.intro
                      refine ⟨fun w' hSw => ?_, ?_⟩
                      · obtain ⟨q1, q2, _⟩ := hSw
                        go_simp
                        with_reducible rfl
                      (try simp only [act_put, act_put_none, List.set_cons_zero, List.set_cons_succ])
                      refine held_take (i := 25) (by simp only [List.getElem?_toArray, List.getElem?_cons_succ, List.getElem?_cons_zero]; rfl) (by decide +kernel) (by decide +kernel) (by decide +kernel) (by exact fun _ _ _ _ h => h) hS (by rfl) ?_
                      apply Exists.intro
                      refine ⟨fun w' hSw => ?_, ?_⟩
                      · obtain ⟨q1, q2, _⟩ := hSw
                        go_simp
                        with_reducible rfl
                      (try simp only [act_put, act_put_none, List.set_cons_zero, List.set_cons_succ])
                      refine held_take (i := 26) (by simp only [List.getElem?_toArray, List.getElem?_cons_succ, List.getElem?_cons_zero]; rfl) (by decide +kernel) (by decide +kernel) (by decide +kernel) (by exact fun _ _ _ _ h => h) hS (by rfl) ?_
                      apply Exists.intro
                      refine ⟨fun w' hSw => ?_, ?_⟩
                      · obtain ⟨q1, q2, _⟩ := hSw
                        have hcv := conv_bytes (c := c7) q2
                        go_simp
                        with_reducible rfl
                      (try simp only [act_put, act_put_none, List.set_cons_zero, List.set_cons_succ])
                      refine held_take (i := 27) (by simp only [List.getElem?_toArray, List.getElem?_cons_succ, List.getElem?_cons_zero]; rfl) (by decide +kernel) (by decide +kernel) (by decide +kernel) (by exact fun _ _ _ _ h => h) hS (by rfl) ?_
                      apply Exists.intro
                      refine ⟨fun w' hSw => ?_, ?_⟩
                      · obtain ⟨q1, q2, _⟩ := hSw
                        go_simp
                        with_reducible rfl
                      (try simp only [act_put, act_put_none, List.set_cons_zero, List.set_cons_succ])
                      refine held_take (i := 28) (by simp only [List.getElem?_toArray, List.getElem?_cons_succ, List.getElem?_cons_zero]; rfl) (by decide +kernel) (by decide +kernel) (by decide +kernel) (by exact fun _ _ _ _ h => h) hS (by rfl) ?_
                      apply Exists.intro
                      refine ⟨fun w' hSw => ?_, ?_⟩
                      · obtain ⟨q1, q2, _⟩ := hSw
                        have hcv := conv_bytes (c := c) q1
                        go_simp
                        with_reducible rfl
                      (try simp only [act_put, act_put_none, List.set_cons_zero, List.set_cons_succ])
                      refine held_take (i := 29) (by simp only [List.getElem?_toArray, List.getElem?_cons_succ, List.getElem?_cons_zero]; rfl) (by decide +kernel) (by decide +kernel) (by decide +kernel) (by exact fun _ _ _ _ h => h) hS (by rfl) ?_
                      apply Exists.intro
                      refine ⟨fun w' hSw => ?_, ?_⟩
                      · obtain ⟨q1, q2, _⟩ := hSw
                        go_simp
                        with_reducible rfl
                      (try simp only [act_put, act_put_none, List.set_cons_zero, List.set_cons_succ])
                      refine held_take (i := 30) (by simp only [List.getElem?_toArray, List.getElem?_cons_succ, List.getElem?_cons_zero]; rfl) (by decide +kernel) (by decide +kernel) (by decide +kernel) (by exact fun _ _ _ _ h => h) hS (by rfl) ?_
                      apply Exists.intro
                      refine ⟨fun w' hSw => ?_, ?_⟩
                      · obtain ⟨q1, q2, _⟩ := hSw
                        go_simp
                        with_reducible rfl
                      (try simp only [act_put, act_put_none, List.set_cons_zero, List.set_cons_succ])
                      refine held_take (i := 31) (by simp only [List.getElem?_toArray, List.getElem?_cons_succ, List.getElem?_cons_zero]; rfl) (by decide +kernel) (by decide +kernel) (by decide +kernel) (by exact fun _ _ _ _ h => h) hS (by rfl) ?_
                      apply Exists.intro
                      refine ⟨fun w' hSw => ?_, ?_⟩
                      · obtain ⟨q1, q2, _⟩ := hSw
                        go_simp
                        with_reducible rfl
                      (try simp only [act_put, act_put_none, List.set_cons_zero, List.set_cons_succ])
                      refine wpAnyH_ready (rs := [32]) (by decide +kernel) (by simp) ?_
                      refine AllReadyH.cons (i := 32) (by simp only [List.getElem?_toArray, List.getElem?_cons_succ, List.getElem?_cons_zero]; rfl) (fun K hK => ?_) ?_
                      · go_simp
                        go_at_call 8
                        refine (awake8 _).mono ?_
                        rintro e v5 ⟨rfl, hb⟩
                        have HX := Lib.hid hb
                        clear hb
                        go_simp
                        refine hK.out _ _ ⟨hS.1.below HX.out, hS.2.1.below HX.out, Lib.hid (bthen hS.2.2.out HX.out)⟩ (fun hS2 => ?_)
                        clear hS hK K HX
                        have hS := hS2
                        clear hS2
                        (try simp only [act_put, act_put_none, List.set_cons_zero, List.set_cons_succ])
                        refine held_take (i := 33) (by simp only [List.getElem?_toArray, List.getElem?_cons_succ, List.getElem?_cons_zero]; rfl) (by decide +kernel) (by decide +kernel) (by decide +kernel) (by exact fun _ _ _ _ h => h) hS (by rfl) ?_
                        apply Exists.intro
                        refine ⟨fun w' hSw => ?_, ?_⟩
                        · obtain ⟨q1, q2, _⟩ := hSw
                          go_simp
                          with_reducible rfl
                        (try simp only [act_put, act_put_none, List.set_cons_zero, List.set_cons_succ])
                        refine held_take (i := 34) (by simp only [List.getElem?_toArray, List.getElem?_cons_succ, List.getElem?_cons_zero]; rfl) (by decide +kernel) (by decide +kernel) (by decide +kernel) (by exact fun _ _ _ _ h => h) hS (by rfl) ?_
                        apply Exists.intro
                        refine ⟨fun w' hSw => ?_, ?_⟩
                        · obtain ⟨q1, q2, _⟩ := hSw
                          go_simp
                          with_reducible rfl
                        (try simp only [act_put, act_put_none, List.set_cons_zero, List.set_cons_succ])
                        refine wpAnyH_done (by decide +kernel) ?_ _
                        have HS := Lib.hid hS.2.2.out
                        clear hS
                        go_wp2_with fail
                        go_ret
                        exact ⟨rfl, HS.out⟩
                      exact AllReadyH.nil
                    exact AllReadyH.nil
                  exact AllReadyH.nil
                exact AllReadyH.nil
              exact AllReadyH.nil
            exact AllReadyH.nil
          refine AllReadyH.cons (i := 8) (by simp only [List.getElem?_toArray, List.getElem?_cons_succ, List.getElem?_cons_zero]; rfl) (fun K hK => ?_) ?_
          · have hcv := conv_bytes (c := d2) i2
            go_simp
            refine hK.out _ _ hS (fun hS2 => ?_)
            clear hK K hS2 hcv i2
            (try simp only [act_put, act_put_none, List.set_cons_zero, List.set_cons_succ])
            refine held_take (i := 9) (by simp only [List.getElem?_toArray, List.getElem?_cons_succ, List.getElem?_cons_zero]; rfl) (by decide +kernel) (by decide +kernel) (by decide +kernel) (by exact fun _ _ _ _ h => h) hS (by rfl) ?_
            apply Exists.intro
            refine ⟨fun w' hSw => ?_, ?_⟩
            · obtain ⟨q1, q2, _⟩ := hSw
              go_simp
              with_reducible rfl
            (try simp only [act_put, act_put_none, List.set_cons_zero, List.set_cons_succ])
            refine wpAnyH_ready (rs := [3]) (by decide +kernel) (by simp) ?_
            refine AllReadyH.cons (i := 3) (by simp only [List.getElem?_toArray, List.getElem?_cons_succ, List.getElem?_cons_zero]; rfl) (fun K hK => ?_) ?_
            · have hcv := conv_bytes (c := d1) i1
              go_simp
              refine hK.out _ _ hS (fun hS2 => ?_)
              clear hK K hS2 hcv i1
              (try simp only [act_put, act_put_none, List.set_cons_zero, List.set_cons_succ])
              refine held_take (i := 10) (by simp only [List.getElem?_toArray, List.getElem?_cons_succ, List.getElem?_cons_zero]; rfl) (by decide +kernel) (by decide +kernel) (by decide +kernel) (by exact fun _ _ _ _ h => h) hS (by rfl) ?_
              apply Exists.intro
              refine ⟨fun w' hSw => ?_, ?_⟩
              · obtain ⟨q1, q2, _⟩ := hSw
                go_simp
                with_reducible rfl
              (try simp only [act_put, act_put_none, List.set_cons_zero, List.set_cons_succ])
              refine held_take (i := 11) (by simp only [List.getElem?_toArray, List.getElem?_cons_succ, List.getElem?_cons_zero]; rfl) (by decide +kernel) (by decide +kernel) (by decide +kernel) (by exact fun _ _ _ _ h => h) hS (by rfl) ?_
              apply Exists.intro
              refine ⟨fun w' hSw => ?_, ?_⟩
              · obtain ⟨q1, q2, _⟩ := hSw
                go_simp
                with_reducible rfl
              (try simp only [act_put, act_put_none, List.set_cons_zero, List.set_cons_succ])
              refine held_take (i := 12) (by simp only [List.getElem?_toArray, List.getElem?_cons_succ, List.getElem?_cons_zero]; rfl) (by decide +kernel) (by decide +kernel) (by decide +kernel) (by exact fun _ _ _ _ h => h) hS (by rfl) ?_
              apply Exists.intro
              refine ⟨fun w' hSw => ?_, ?_⟩
              · obtain ⟨q1, q2, _⟩ := hSw
                go_simp
                with_reducible rfl
              (try simp only [act_put, act_put_none, List.set_cons_zero, List.set_cons_succ])
              refine held_take (i := 13) (by simp only [List.getElem?_toArray, List.getElem?_cons_succ, List.getElem?_cons_zero]; rfl) (by decide +kernel) (by decide +kernel) (by decide +kernel) (by exact fun _ _ _ _ h => h) hS (by rfl) ?_
              apply Exists.intro
              refine ⟨fun w' hSw => ?_, ?_⟩
              · obtain ⟨q1, q2, _⟩ := hSw
                go_simp
                with_reducible rfl
              (try simp only [act_put, act_put_none, List.set_cons_zero, List.set_cons_succ])
              refine held_take (i := 16) (by simp only [List.getElem?_toArray, List.getElem?_cons_succ, List.getElem?_cons_zero]; rfl) (by decide +kernel) (by decide +kernel) (by decide +kernel) (by exact fun _ _ _ _ h => h) hS (by rfl) ?_
              apply Exists.intro
              refine ⟨fun w' hSw => ?_, ?_⟩
              · obtain ⟨q1, q2, _⟩ := hSw
                go_simp
                with_reducible rfl
              (try simp only [act_put, act_put_none, List.set_cons_zero, List.set_cons_succ])
              refine held_take (i := 17) (by simp only [List.getElem?_toArray, List.getElem?_cons_succ, List.getElem?_cons_zero]; rfl) (by decide +kernel) (by decide +kernel) (by decide +kernel) (by exact fun _ _ _ _ h => h) hS (by rfl) ?_
              apply Exists.intro
              refine ⟨fun w' hSw => ?_, ?_⟩
              · obtain ⟨q1, q2, _⟩ := hSw
                have hcv := conv_bytes (c := c) q1
                go_simp
                with_reducible rfl
              (try simp only [act_put, act_put_none, List.set_cons_zero, List.set_cons_succ])
              refine held_take (i := 18) (by simp only [List.getElem?_toArray, List.getElem?_cons_succ, List.getElem?_cons_zero]; rfl) (by decide +kernel) (by decide +kernel) (by decide +kernel) (by exact fun _ _ _ _ h => h) hS (by rfl) ?_
              apply Exists.intro
              refine ⟨fun w' hSw => ?_, ?_⟩
              · obtain ⟨q1, q2, _⟩ := hSw
                go_simp
                with_reducible rfl
              (try simp only [act_put, act_put_none, List.set_cons_zero, List.set_cons_succ])
              refine wpAnyH_ready (rs := [14]) (by decide +kernel) (by simp) ?_
              refine AllReadyH.cons (i := 14) (by simp only [List.getElem?_toArray, List.getElem?_cons_succ, List.getElem?_cons_zero]; rfl) (fun K hK => ?_) ?_
              · go_simp
                go_at_call 15
                refine (HC3.out _ (hS.2.1)).mono ?_
                rintro e v3 ⟨x3, rfl, hown, hb⟩
                obtain ⟨B3, d3, rfl, i3, _, _, _⟩ := hown.isBy
                have HX := Lib.hid hb
                clear hb hown
                go_simp
                refine hK.out _ _ ⟨hS.1.below HX.out, hS.2.1.below HX.out, Lib.hid (bthen hS.2.2.out HX.out)⟩ (fun hS2 => ?_)
                clear hS hK K HX
                have hS := hS2
                clear hS2
                (try simp only [act_put, act_put_none, List.set_cons_zero, List.set_cons_succ])
                refine wpAnyH_ready (rs := [15, 19]) (by decide +kernel) (by simp) ?_
                refine AllReadyH.cons (i := 15) (by simp only [List.getElem?_toArray, List.getElem?_cons_succ, List.getElem?_cons_zero]; rfl) (fun K hK => ?_) ?_
                · have hcv := conv_bytes (c := d3) i3
                  go_simp
                  refine hK.out _ _ hS (fun hS2 => ?_)
                  clear hK K hS2 hcv i3
                  (try simp only [act_put, act_put_none, List.set_cons_zero, List.set_cons_succ])
                  refine wpAnyH_ready (rs := [19]) (by decide +kernel) (by simp) ?_
                  refine AllReadyH.cons (i := 19) (by simp only [List.getElem?_toArray, List.getElem?_cons_succ, List.getElem?_cons_zero]; rfl) (fun K hK => ?_) ?_
                  · go_simp
                    go_at_call 16
                    refine (HC4.out _ ).mono ?_
                    rintro e v4 ⟨x4, rfl, hown, hb⟩
                    obtain ⟨B4, d4, rfl, i4, _, _, _⟩ := hown.isBy
                    have HX := Lib.hid hb
                    clear hb hown
                    go_simp
                    refine hK.out _ _ ⟨hS.1.below HX.out, hS.2.1.below HX.out, Lib.hid (bthen hS.2.2.out HX.out)⟩ (fun hS2 => ?_)
                    clear hS hK K HX
                    have hS := hS2
                    clear hS2
                    (try simp only [act_put, act_put_none, List.set_cons_zero, List.set_cons_succ])
                    refine wpAnyH_ready (rs := [20]) (by decide +kernel) (by simp) ?_
                    refine AllReadyH.cons (i := 20) (by simp only [List.getElem?_toArray, List.getElem?_cons_succ, List.getElem?_cons_zero]; rfl) (fun K hK => ?_) ?_
                    · have hcv := conv_bytes (c := d4) i4
                      go_simp
                      refine hK.out _ _ hS (fun hS2 => ?_)
                      clear hK K hS2 hcv i4
                      (try simp only [act_put, act_put_none, List.set_cons_zero, List.set_cons_succ])
                      refine held_take (i := 21) (by simp only [List.getElem?_toArray, List.getElem?_cons_succ, List.getElem?_cons_zero]; rfl) (by decide +kernel) (by decide +kernel) (by decide +kernel) (by exact fun _ _ _ _ h => h) hS (by rfl) ?_
                      apply Exists.intro
                      refine ⟨fun w' hSw => ?_, ?_⟩
                      · obtain ⟨q1, q2, _⟩ := hSw
                        go_simp
                        with_reducible rfl
                      (try simp only [act_put, act_put_none, List.set_cons_zero, List.set_cons_succ])
                      refine held_take (i := 22) (by simp only [List.getElem?_toArray, List.getElem?_cons_succ, List.getElem?_cons_zero]; rfl) (by decide +kernel) (by decide +kernel) (by decide +kernel) (by exact fun _ _ _ _ h => h) hS (by rfl) ?_
                      apply Exists.intro
                      refine ⟨fun w' hSw => ?_, ?_⟩
                      · obtain ⟨q1, q2, _⟩ := hSw
                        go_simp
                        with_reducible rfl
                      (try simp only [act_put, act_put_none, List.set_cons_zero, List.set_cons_succ])
                      refine held_take (i := 23) (by simp only [List.getElem?_toArray, List.getElem?_cons_succ, List.getElem?_cons_zero]; rfl) (by decide +kernel) (by decide +kernel) (by decide +kernel) (by exact fun _ _ _ _ h => h) hS (by rfl) ?_
                      apply Exists.intro
                      refine ⟨fun w' hSw => ?_, ?_⟩
                      · obtain ⟨q1, q2, _⟩ := hSw
                        go_simp
                        with_reducible rfl
                      (try simp only [act_put, act_put_none, List.set_cons_zero, List.set_cons_succ])
                      refine held_take (i := 24) (by simp only [List.getElem?_toArray, List.getElem?_cons_succ, List.getElem?_cons_zero]; rfl) (by decide +kernel) (by decide +kernel) (by decide +kernel) (by exact fun _ _ _ _ h => h) hS (by rfl) ?_
                      apply Exists.intro
                      refine ⟨fun w' hSw => ?_, ?_⟩
                      · obtain ⟨q1, q2, _⟩ := hSw
                        go_simp
                        with_reducible rfl
                      (try simp only [act_put, act_put_none, List.set_cons_zero, List.set_cons_succ])
                      refine held_take (i := 25) (by simp only [List.getElem?_toArray, List.getElem?_cons_succ, List.getElem?_cons_zero]; rfl) (by decide +kernel) (by decide +kernel) (by decide +kernel) (by exact fun _ _ _ _ h => h) hS (by rfl) ?_
                      apply Exists.intro
                      refine ⟨fun w' hSw => ?_, ?_⟩
                      · obtain ⟨q1, q2, _⟩ := hSw
                        go_simp
                        with_reducible rfl
                      (try simp only [act_put, act_put_none, List.set_cons_zero, List.set_cons_succ])
                      refine held_take (i := 26) (by simp only [List.getElem?_toArray, List.getElem?_cons_succ, List.getElem?_cons_zero]; rfl) (by decide +kernel) (by decide +kernel) (by decide +kernel) (by exact fun _ _ _ _ h => h) hS (by rfl) ?_
                      apply Exists.intro
                      refine ⟨fun w' hSw => ?_, ?_⟩
                      · obtain ⟨q1, q2, _⟩ := hSw
                        have hcv := conv_bytes (c := c7) q2
                        go_simp
                        with_reducible rfl
                      (try simp only [act_put, act_put_none, List.set_cons_zero, List.set_cons_succ])
                      refine held_take (i := 27) (by simp only [List.getElem?_toArray, List.getElem?_cons_succ, List.getElem?_cons_zero]; rfl) (by decide +kernel) (by decide +kernel) (by decide +kernel) (by exact fun _ _ _ _ h => h) hS (by rfl) ?_
                      apply Exists.intro
                      refine ⟨fun w' hSw => ?_, ?_⟩
                      · obtain ⟨q1, q2, _⟩ := hSw
                        go_simp
                        with_reducible rfl
                      (try simp only [act_put, act_put_none, List.set_cons_zero, List.set_cons_succ])
                      refine held_take (i := 28) (by simp only [List.getElem?_toArray, List.getElem?_cons_succ, List.getElem?_cons_zero]; rfl) (by decide +kernel) (by decide +kernel) (by decide +kernel) (by exact fun _ _ _ _ h => h) hS (by rfl) ?_
                      apply Exists.intro
                      refine ⟨fun w' hSw => ?_, ?_⟩
                      · obtain ⟨q1, q2, _⟩ := hSw
                        have hcv := conv_bytes (c := c) q1
                        go_simp
                        with_reducible rfl
                      (try simp only [act_put, act_put_none, List.set_cons_zero, List.set_cons_succ])
                      refine held_take (i := 29) (by simp only [List.getElem?_toArray, List.getElem?_cons_succ, List.getElem?_cons_zero]; rfl) (by decide +kernel) (by decide +kernel) (by decide +kernel) (by exact fun _ _ _ _ h => h) hS (by rfl) ?_
                      apply Exists.intro
                      refine ⟨fun w' hSw => ?_, ?_⟩
                      · obtain ⟨q1, q2, _⟩ := hSw
                        go_simp
                        with_reducible rfl
                      (try simp only [act_put, act_put_none, List.set_cons_zero, List.set_cons_succ])
                      refine held_take (i := 30) (by simp only [List.getElem?_toArray, List.getElem?_cons_succ, List.getElem?_cons_zero]; rfl) (by decide +kernel) (by decide +kernel) (by decide +kernel) (by exact fun _ _ _ _ h => h) hS (by rfl) ?_
                      apply Exists.intro
                      refine ⟨fun w' hSw => ?_, ?_⟩
                      · obtain ⟨q1, q2, _⟩ := hSw
                        go_simp
                        with_reducible rfl
                      (try simp only [act_put, act_put_none, List.set_cons_zero, List.set_cons_succ])
                      refine held_take (i := 31) (by simp only [List.getElem?_toArray, List.getElem?_cons_succ, List.getElem?_cons_zero]; rfl) (by decide +kernel) (by decide +kernel) (by decide +kernel) (by exact fun _ _ _ _ h => h) hS (by rfl) ?_
                      apply Exists.intro
                      refine ⟨fun w' hSw => ?_, ?_⟩
                      · obtain ⟨q1, q2, _⟩ := hSw
                        go_simp
                        with_reducible rfl
                      (try simp only [act_put, act_put_none, List.set_cons_zero, List.set_cons_succ])
                      refine wpAnyH_ready (rs := [32]) (by decide +kernel) (by simp) ?_
                      refine AllReadyH.cons (i := 32) (by simp only [List.getElem?_toArray, List.getElem?_cons_succ, List.getElem?_cons_zero]; rfl) (fun K hK => ?_) ?_
                      · go_simp
                        go_at_call 8
                        refine (awake8 _).mono ?_
                        rintro e v5 ⟨rfl, hb⟩
                        have HX := Lib.hid hb
                        clear hb
                        go_simp
                        refine hK.out _ _ ⟨hS.1.below HX.out, hS.2.1.below HX.out, Lib.hid (bthen hS.2.2.out HX.out)⟩ (fun hS2 => ?_)
                        clear hS hK K HX
                        have hS := hS2
                        clear hS2
                        (try simp only [act_put, act_put_none, List.set_cons_zero, List.set_cons_succ])
                        refine held_take (i := 33) (by simp only [List.getElem?_toArray, List.getElem?_cons_succ, List.getElem?_cons_zero]; rfl) (by decide +kernel) (by decide +kernel) (by decide +kernel) (by exact fun _ _ _ _ h => h) hS (by rfl) ?_
                        apply Exists.intro
                        refine ⟨fun w' hSw => ?_, ?_⟩
                        · obtain ⟨q1, q2, _⟩ := hSw
                          go_simp
                          with_reducible rfl
                        (try simp only [act_put, act_put_none, List.set_cons_zero, List.set_cons_succ])
                        refine held_take (i := 34) (by simp only [List.getElem?_toArray, List.getElem?_cons_succ, List.getElem?_cons_zero]; rfl) (by decide +kernel) (by decide +kernel) (by decide +kernel) (by exact fun _ _ _ _ h => h) hS (by rfl) ?_
                        apply Exists.intro
                        refine ⟨fun w' hSw => ?_, ?_⟩
                        · obtain ⟨q1, q2, _⟩ := hSw
                          go_simp
                          with_reducible rfl
                        (try simp only [act_put, act_put_none, List.set_cons_zero, List.set_cons_succ])
                        refine wpAnyH_done (by decide +kernel) ?_ _
                        have HS := Lib.hid hS.2.2.out
                        clear hS
                        go_wp2_with fail
                        go_ret
                        exact ⟨rfl, HS.out⟩
                      exact AllReadyH.nil
                    exact AllReadyH.nil
                  exact AllReadyH.nil
                refine AllReadyH.cons (i := 19) (by simp only [List.getElem?_toArray, List.getElem?_cons_succ, List.getElem?_cons_zero]; rfl) (fun K hK => ?_) ?_
                · go_simp
                  go_at_call 16
                  refine (HC4.out _ ).mono ?_
                  rintro e v4 ⟨x4, rfl, hown, hb⟩
                  obtain ⟨B4, d4, rfl, i4, _, _, _⟩ := hown.isBy
                  have HX := Lib.hid hb
                  clear hb hown
                  have i3 := i3.below HX.out
                  go_simp
                  refine hK.out _ _ ⟨hS.1.below HX.out, hS.2.1.below HX.out, Lib.hid (bthen hS.2.2.out HX.out)⟩ (fun hS2 => ?_)
                  clear hS hK K HX
                  have hS := hS2
                  clear hS2
                  (try simp only [act_put, act_put_none, List.set_cons_zero, List.set_cons_succ])
                  refine wpAnyH_ready (rs := [15, 20]) (by decide +kernel) (by simp) ?_
                  refine AllReadyH.cons (i := 15) (by simp only [List.getElem?_toArray, List.getElem?_cons_succ, List.getElem?_cons_zero]; rfl) (fun K hK => ?_) ?_
                  · have hcv := conv_bytes (c := d3) i3
                    go_simp
                    refine hK.out _ _ hS (fun hS2 => ?_)
                    clear hK K hS2 hcv i3
                    (try simp only [act_put, act_put_none, List.set_cons_zero, List.set_cons_succ])
                    refine wpAnyH_ready (rs := [20]) (by decide +kernel) (by simp) ?_
                    refine AllReadyH.cons (i := 20) (by simp only [List.getElem?_toArray, List.getElem?_cons_succ, List.getElem?_cons_zero]; rfl) (fun K hK => ?_) ?_
                    · have hcv := conv_bytes (c := d4) i4
                      go_simp
                      refine hK.out _ _ hS (fun hS2 => ?_)
                      clear hK K hS2 hcv i4
                      (try simp only [act_put, act_put_none, List.set_cons_zero, List.set_cons_succ])
                      refine held_take (i := 21) (by simp only [List.getElem?_toArray, List.getElem?_cons_succ, List.getElem?_cons_zero]; rfl) (by decide +kernel) (by decide +kernel) (by decide +kernel) (by exact fun _ _ _ _ h => h) hS (by rfl) ?_
                      apply Exists.intro
                      refine ⟨fun w' hSw => ?_, ?_⟩
                      · obtain ⟨q1, q2, _⟩ := hSw
                        go_simp
                        with_reducible rfl
                      (try simp only [act_put, act_put_none, List.set_cons_zero, List.set_cons_succ])
                      refine held_take (i := 22) (by simp only [List.getElem?_toArray, List.getElem?_cons_succ, List.getElem?_cons_zero]; rfl) (by decide +kernel) (by decide +kernel) (by decide +kernel) (by exact fun _ _ _ _ h => h) hS (by rfl) ?_
                      apply Exists.intro
                      refine ⟨fun w' hSw => ?_, ?_⟩
                      · obtain ⟨q1, q2, _⟩ := hSw
                        go_simp
                        with_reducible rfl
                      (try simp only [act_put, act_put_none, List.set_cons_zero, List.set_cons_succ])
                      refine held_take (i := 23) (by simp only [List.getElem?_toArray, List.getElem?_cons_succ, List.getElem?_cons_zero]; rfl) (by decide +kernel) (by decide +kernel) (by decide +kernel) (by exact fun _ _ _ _ h => h) hS (by rfl) ?_
                      apply Exists.intro
                      refine ⟨fun w' hSw => ?_, ?_⟩
                      · obtain ⟨q1, q2, _⟩ := hSw
                        go_simp
                        with_reducible rfl
                      (try simp only [act_put, act_put_none, List.set_cons_zero, List.set_cons_succ])
                      refine held_take (i := 24) (by simp only [List.getElem?_toArray, List.getElem?_cons_succ, List.getElem?_cons_zero]; rfl) (by decide +kernel) (by decide +kernel) (by decide +kernel) (by exact fun _ _ _ _ h => h) hS (by rfl) ?_
                      apply Exists.intro
                      refine ⟨fun w' hSw => ?_, ?_⟩
                      · obtain ⟨q1, q2, _⟩ := hSw
                        go_simp
                        with_reducible rfl
                      (try simp only [act_put, act_put_none, List.set_cons_zero, List.set_cons_succ])
                      refine held_take (i := 25) (by simp only [List.getElem?_toArray, List.getElem?_cons_succ, List.getElem?_cons_zero]; rfl) (by decide +kernel) (by decide +kernel) (by decide +kernel) (by exact fun _ _ _ _ h => h) hS (by rfl) ?_
                      apply Exists.intro
                      refine ⟨fun w' hSw => ?_, ?_⟩
                      · obtain ⟨q1, q2, _⟩ := hSw
                        go_simp
                        with_reducible rfl
                      (try simp only [act_put, act_put_none, List.set_cons_zero, List.set_cons_succ])
                      refine held_take (i := 26) (by simp only [List.getElem?_toArray, List.getElem?_cons_succ, List.getElem?_cons_zero]; rfl) (by decide +kernel) (by decide +kernel) (by decide +kernel) (by exact fun _ _ _ _ h => h) hS (by rfl) ?_
                      apply Exists.intro
                      refine ⟨fun w' hSw => ?_, ?_⟩
                      · obtain ⟨q1, q2, _⟩ := hSw
                        have hcv := conv_bytes (c := c7) q2
                        go_simp
                        with_reducible rfl
                      (try simp only [act_put, act_put_none, List.set_cons_zero, List.set_cons_succ])
                      refine held_take (i := 27) (by simp only [List.getElem?_toArray, List.getElem?_cons_succ, List.getElem?_cons_zero]; rfl) (by decide +kernel) (by decide +kernel) (by decide +kernel) (by exact fun _ _ _ _ h => h) hS (by rfl) ?_
                      apply Exists.intro
                      refine ⟨fun w' hSw => ?_, ?_⟩
                      · obtain ⟨q1, q2, _⟩ := hSw
                        go_simp
                        with_reducible rfl
                      (try simp only [act_put, act_put_none, List.set_cons_zero, List.set_cons_succ])
                      refine held_take (i := 28) (by simp only [List.getElem?_toArray, List.getElem?_cons_succ, List.getElem?_cons_zero]; rfl) (by decide +kernel) (by decide +kernel) (by decide +kernel) (by exact fun _ _ _ _ h => h) hS (by rfl) ?_
                      apply Exists.intro
                      refine ⟨fun w' hSw => ?_, ?_⟩
                      · obtain ⟨q1, q2, _⟩ := hSw
                        have hcv := conv_bytes (c := c) q1
                        go_simp
                        with_reducible rfl
                      (try simp only [act_put, act_put_none, List.set_cons_zero, List.set_cons_succ])
                      refine held_take (i := 29) (by simp only [List.getElem?_toArray, List.getElem?_cons_succ, List.getElem?_cons_zero]; rfl) (by decide +kernel) (by decide +kernel) (by decide +kernel) (by exact fun _ _ _ _ h => h) hS (by rfl) ?_
                      apply Exists.intro
                      refine ⟨fun w' hSw => ?_, ?_⟩
                      · obtain ⟨q1, q2, _⟩ := hSw
                        go_simp
                        with_reducible rfl
                      (try simp only [act_put, act_put_none, List.set_cons_zero, List.set_cons_succ])
                      refine held_take (i := 30) (by simp only [List.getElem?_toArray, List.getElem?_cons_succ, List.getElem?_cons_zero]; rfl) (by decide +kernel) (by decide +kernel) (by decide +kernel) (by exact fun _ _ _ _ h => h) hS (by rfl) ?_
                      apply Exists.intro
                      refine ⟨fun w' hSw => ?_, ?_⟩
                      · obtain ⟨q1, q2, _⟩ := hSw
                        go_simp
                        with_reducible rfl
                      (try simp only [act_put, act_put_none, List.set_cons_zero, List.set_cons_succ])
                      refine held_take (i := 31) (by simp only [List.getElem?_toArray, List.getElem?_cons_succ, List.getElem?_cons_zero]; rfl) (by decide +kernel) (by decide +kernel) (by decide +kernel) (by exact fun _ _ _ _ h => h) hS (by rfl) ?_
                      apply Exists.intro
                      refine ⟨fun w' hSw => ?_, ?_⟩
                      · obtain ⟨q1, q2, _⟩ := hSw
                        go_simp
                        with_reducible rfl
                      (try simp only [act_put, act_put_none, List.set_cons_zero, List.set_cons_succ])
                      refine wpAnyH_ready (rs := [32]) (by decide +kernel) (by simp) ?_
                      refine AllReadyH.cons (i := 32) (by simp only [List.getElem?_toArray, List.getElem?_cons_succ, List.getElem?_cons_zero]; rfl) (fun K hK => ?_) ?_
                      · go_simp
                        go_at_call 8
                        refine (awake8 _).mono ?_
                        rintro e v5 ⟨rfl, hb⟩
                        have HX := Lib.hid hb
                        clear hb
                        go_simp
                        refine hK.out _ _ ⟨hS.1.below HX.out, hS.2.1.below HX.out, Lib.hid (bthen hS.2.2.out HX.out)⟩ (fun hS2 => ?_)
                        clear hS hK K HX
                        have hS := hS2
                        clear hS2
                        (try simp only [act_put, act_put_none, List.set_cons_zero, List.set_cons_succ])
                        refine held_take (i := 33) (by simp only [List.getElem?_toArray, List.getElem?_cons_succ, List.getElem?_cons_zero]; rfl) (by decide +kernel) (by decide +kernel) (by decide +kernel) (by exact fun _ _ _ _ h => h) hS (by rfl) ?_
                        apply Exists.intro
                        refine ⟨fun w' hSw => ?_, ?_⟩
                        · obtain ⟨q1, q2, _⟩ := hSw
                          go_simp
                          with_reducible rfl
                        (try simp only [act_put, act_put_none, List.set_cons_zero, List.set_cons_succ])
                        refine held_take (i := 34) (by simp only [List.getElem?_toArray, List.getElem?_cons_succ, List.getElem?_cons_zero]; rfl) (by decide +kernel) (by decide +kernel) (by decide +kernel) (by exact fun _ _ _ _ h => h) hS (by rfl) ?_
                        apply Exists.intro
                        refine ⟨fun w' hSw => ?_, ?_⟩
                        · obtain ⟨q1, q2, _⟩ := hSw
                          go_simp
                          with_reducible rfl
                        (try simp only [act_put, act_put_none, List.set_cons_zero, List.set_cons_succ])
                        refine wpAnyH_done (by decide +kernel) ?_ _
                        have HS := Lib.hid hS.2.2.out
                        clear hS
                        go_wp2_with fail
                        go_ret
                        exact ⟨rfl, HS.out⟩
                      exact AllReadyH.nil
                    exact AllReadyH.nil
                  refine AllReadyH.cons (i := 20) (by simp only [List.getElem?_toArray, List.getElem?_cons_succ, List.getElem?_cons_zero]; rfl) (fun K hK => ?_) ?_
                  · have hcv := conv_bytes (c := d4) i4
                    go_simp
                    refine hK.out _ _ hS (fun hS2 => ?_)
                    clear hK K hS2 hcv i4
                    (try simp only [act_put, act_put_none, List.set_cons_zero, List.set_cons_succ])
                    refine held_take (i := 21) (by simp only [List.getElem?_toArray, List.getElem?_cons_succ, List.getElem?_cons_zero]; rfl) (by decide +kernel) (by decide +kernel) (by decide +kernel) (by exact fun _ _ _ _ h => h) hS (by rfl) ?_
                    apply Exists.intro
                    refine ⟨fun w' hSw => ?_, ?_⟩
                    · obtain ⟨q1, q2, _⟩ := hSw
                      go_simp
                      with_reducible rfl
                    (try simp only [act_put, act_put_none, List.set_cons_zero, List.set_cons_succ])
                    refine wpAnyH_ready (rs := [15]) (by decide +kernel) (by simp) ?_
                    refine AllReadyH.cons (i := 15) (by simp only [List.getElem?_toArray, List.getElem?_cons_succ, List.getElem?_cons_zero]; rfl) (fun K hK => ?_) ?_
                    · have hcv := conv_bytes (c := d3) i3
                      go_simp
                      refine hK.out _ _ hS (fun hS2 => ?_)
                      clear hK K hS2 hcv i3
                      (try simp only [act_put, act_put_none, List.set_cons_zero, List.set_cons_succ])
                      refine held_take (i := 22) (by simp only [List.getElem?_toArray, List.getElem?_cons_succ, List.getElem?_cons_zero]; rfl) (by decide +kernel) (by decide +kernel) (by decide +kernel) (by exact fun _ _ _ _ h => h) hS (by rfl) ?_
                      apply Exists.intro
                      refine ⟨fun w' hSw => ?_, ?_⟩
                      · obtain ⟨q1, q2, _⟩ := hSw
                        go_simp
                        with_reducible rfl
                      (try simp only [act_put, act_put_none, List.set_cons_zero, List.set_cons_succ])
                      refine held_take (i := 23) (by simp only [List.getElem?_toArray, List.getElem?_cons_succ, List.getElem?_cons_zero]; rfl) (by decide +kernel) (by decide +kernel) (by decide +kernel) (by exact fun _ _ _ _ h => h) hS (by rfl) ?_
                      apply Exists.intro
                      refine ⟨fun w' hSw => ?_, ?_⟩
                      · obtain ⟨q1, q2, _⟩ := hSw
                        go_simp
                        with_reducible rfl
                      (try simp only [act_put, act_put_none, List.set_cons_zero, List.set_cons_succ])
                      refine held_take (i := 24) (by simp only [List.getElem?_toArray, List.getElem?_cons_succ, List.getElem?_cons_zero]; rfl) (by decide +kernel) (by decide +kernel) (by decide +kernel) (by exact fun _ _ _ _ h => h) hS (by rfl) ?_
                      apply Exists.intro
                      refine ⟨fun w' hSw => ?_, ?_⟩
                      · obtain ⟨q1, q2, _⟩ := hSw
                        go_simp
                        with_reducible rfl
                      (try simp only [act_put, act_put_none, List.set_cons_zero, List.set_cons_succ])
                      refine held_take (i := 25) (by simp only [List.getElem?_toArray, List.getElem?_cons_succ, List.getElem?_cons_zero]; rfl) (by decide +kernel) (by decide +kernel) (by decide +kernel) (by exact fun _ _ _ _ h => h) hS (by rfl) ?_
                      apply Exists.intro
                      refine ⟨fun w' hSw => ?_, ?_⟩
                      · obtain ⟨q1, q2, _⟩ := hSw
                        go_simp
                        with_reducible rfl
                      (try simp only [act_put, act_put_none, List.set_cons_zero, List.set_cons_succ])
                      refine held_take (i := 26) (by simp only [List.getElem?_toArray, List.getElem?_cons_succ, List.getElem?_cons_zero]; rfl) (by decide +kernel) (by decide +kernel) (by decide +kernel) (by exact fun _ _ _ _ h => h) hS (by rfl) ?_
                      apply Exists.intro
                      refine ⟨fun w' hSw => ?_, ?_⟩
                      · obtain ⟨q1, q2, _⟩ := hSw
                        have hcv := conv_bytes (c := c7) q2
                        go_simp
                        with_reducible rfl
                      (try simp only [act_put, act_put_none, List.set_cons_zero, List.set_cons_succ])
                      refine held_take (i := 27) (by simp only [List.getElem?_toArray, List.getElem?_cons_succ, List.getElem?_cons_zero]; rfl) (by decide +kernel) (by decide +kernel) (by decide +kernel) (by exact fun _ _ _ _ h => h) hS (by rfl) ?_
                      apply Exists.intro
                      refine ⟨fun w' hSw => ?_, ?_⟩
                      · obtain ⟨q1, q2, _⟩ := hSw
                        go_simp
                        with_reducible rfl
                      (try simp only [act_put, act_put_none, List.set_cons_zero, List.set_cons_succ])
                      refine held_take (i := 28) (by simp only [List.getElem?_toArray, List.getElem?_cons_succ, List.getElem?_cons_zero]; rfl) (by decide +kernel) (by decide +kernel) (by decide +kernel) (by exact fun _ _ _ _ h => h) hS (by rfl) ?_
                      apply Exists.intro
                      refine ⟨fun w' hSw => ?_, ?_⟩
                      · obtain ⟨q1, q2, _⟩ := hSw
                        have hcv := conv_bytes (c := c) q1
                        go_simp
                        with_reducible rfl
                      (try simp only [act_put, act_put_none, List.set_cons_zero, List.set_cons_succ])
                      refine held_take (i := 29) (by simp only [List.getElem?_toArray, List.getElem?_cons_succ, List.getElem?_cons_zero]; rfl) (by decide +kernel) (by decide +kernel) (by decide +kernel) (by exact fun _ _ _ _ h => h) hS (by rfl) ?_
                      apply Exists.intro
                      refine ⟨fun w' hSw => ?_, ?_⟩
                      · obtain ⟨q1, q2, _⟩ := hSw
                        go_simp
                        with_reducible rfl
                      (try simp only [act_put, act_put_none, List.set_cons_zero, List.set_cons_succ])
                      refine held_take (i := 30) (by simp only [List.getElem?_toArray, List.getElem?_cons_succ, List.getElem?_cons_zero]; rfl) (by decide +kernel) (by decide +kernel) (by decide +kernel) (by exact fun _ _ _ _ h => h) hS (by rfl) ?_
                      apply Exists.intro
                      refine ⟨fun w' hSw => ?_, ?_⟩
                      · obtain ⟨q1, q2, _⟩ := hSw
                        go_simp
                        with_reducible rfl
                      (try simp only [act_put, act_put_none, List.set_cons_zero, List.set_cons_succ])
                      refine held_take (i := 31) (by simp only [List.getElem?_toArray, List.getElem?_cons_succ, List.getElem?_cons_zero]; rfl) (by decide +kernel) (by decide +kernel) (by decide +kernel) (by exact fun _ _ _ _ h => h) hS (by rfl) ?_
                      apply Exists.intro
                      refine ⟨fun w' hSw => ?_, ?_⟩
                      · obtain ⟨q1, q2, _⟩ := hSw
                        go_simp
                        with_reducible rfl
                      (try simp only [act_put, act_put_none, List.set_cons_zero, List.set_cons_succ])
                      refine wpAnyH_ready (rs := [32]) (by decide +kernel) (by simp) ?_
                      refine AllReadyH.cons (i := 32) (by simp only [List.getElem?_toArray, List.getElem?_cons_succ, List.getElem?_cons_zero]; rfl) (fun K hK => ?_) ?_
                      · go_simp
                        go_at_call 8
                        refine (awake8 _).mono ?_
                        rintro e v5 ⟨rfl, hb⟩
                        have HX := Lib.hid hb
                        clear hb
                        go_simp
                        refine hK.out _ _ ⟨hS.1.below HX.out, hS.2.1.below HX.out, Lib.hid (bthen hS.2.2.out HX.out)⟩ (fun hS2 => ?_)
                        clear hS hK K HX
                        have hS := hS2
                        clear hS2
                        (try simp only [act_put, act_put_none, List.set_cons_zero, List.set_cons_succ])
                        refine held_take (i := 33) (by simp only [List.getElem?_toArray, List.getElem?_cons_succ, List.getElem?_cons_zero]; rfl) (by decide +kernel) (by decide +kernel) (by decide +kernel) (by exact fun _ _ _ _ h => h) hS (by rfl) ?_
                        apply Exists.intro
                        refine ⟨fun w' hSw => ?_, ?_⟩
                        · obtain ⟨q1, q2, _⟩ := hSw
                          go_simp
                          with_reducible rfl
                        (try simp only [act_put, act_put_none, List.set_cons_zero, List.set_cons_succ])
                        refine held_take (i := 34) (by simp only [List.getElem?_toArray, List.getElem?_cons_succ, List.getElem?_cons_zero]; rfl) (by decide +kernel) (by decide +kernel) (by decide +kernel) (by exact fun _ _ _ _ h => h) hS (by rfl) ?_
                        apply Exists.intro
                        refine ⟨fun w' hSw => ?_, ?_⟩
                        · obtain ⟨q1, q2, _⟩ := hSw
                          go_simp
                          with_reducible rfl
                        (try simp only [act_put, act_put_none, List.set_cons_zero, List.set_cons_succ])
                        refine wpAnyH_done (by decide +kernel) ?_ _
                        have HS := Lib.hid hS.2.2.out
                        clear hS
                        go_wp2_with fail
                        go_ret
                        exact ⟨rfl, HS.out⟩
                      exact AllReadyH.nil
                    exact AllReadyH.nil
                  exact AllReadyH.nil
                exact AllReadyH.nil
              exact AllReadyH.nil
            exact AllReadyH.nil
          exact AllReadyH.nil
        exact AllReadyH.nil
      exact AllReadyH.nil
    · have hT' : ¬ (t.length : Int) ≤ 2000 := by omega
      go_wp2_with fail
      refine (awake8 _).mono ?_
      rintro e w9 ⟨rfl, hb9⟩
      have HB9 := Lib.hid hb9
      clear hb9
      go_wp2_with fail
      go_ret
      exact ⟨rfl, HB9.out⟩
  · have hL' : ¬ (l.length : Int) ≤ 2000 := by omega
    go_wp2_with fail
    refine (awake8 _).mono ?_
    rintro e w9 ⟨rfl, hb9⟩
    have HB9 := Lib.hid hb9
    clear hb9
    go_wp2_with fail
    go_ret
    exact ⟨rfl, HB9.out⟩
end Go.Proofs.Ytaflbcckoiiddaa
