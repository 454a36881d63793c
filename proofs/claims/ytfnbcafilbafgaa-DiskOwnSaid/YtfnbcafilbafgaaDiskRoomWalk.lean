/-
  The walk of DiskRoom.
-/
import Derived.Test.YtfnbcafilbafgaaAwake11
import Derived.Test.YtfnbcafilbafgaaTrack
import Derived.Test.YtfnbcafilbafgaaHeld
import Derived.Test.YtfnbcafilbafgaaFrameB
namespace Go.Proofs.Ytfnbcafilbafgaa
open Go.RowKit
set_option linter.unusedSimpArgs false
attribute [local go_sem] rowAt_setRow rowAt_setCell
/-- The text of bytes. -/
def strD (l : List UInt8) : ByteArray := ⟨l.toArray⟩
theorem convD {w : World} {A : Option Addr} {c : Nat} {l : List UInt8} (h : IsBy w A l) : (convert 26 9 (.slice A l.length c)).run Try.prog w = .ok (.string (strD l)) w := by
  cases A with
  | none =>
    have : l = [] := by
      cases l with
      | nil => rfl
      | cons y ys => obtain ⟨b, o, h1, _⟩ := h 0 (by simp); cases h1
    subst this
    rw [List.length_nil, run_convert_bytes_string w _ _ _ none 0 c Try.underlying26 Try.underlying5 Try.underlying9]
    rfl
  | some a =>
    refine run_convert_bytes_back w _ _ _ a c l Try.underlying26 Try.underlying5 Try.underlying9 fun j hj => ?_
    obtain ⟨b, o, h1, h2⟩ := h j hj
    injection h1 with h1
    subst h1
    rw [Addr.add_lit, h2]
    simp [bc, List.getD, List.getElem?_eq_getElem hj]
theorem OwnBy.lt {w : World} {base : Nat} {v : Value} {xs : List UInt8} (h : OwnBy w base v xs) : ∀ k, v.ownBlock = some k → base ≤ k ∧ k < w.heap.size := World.ownsRow.lt h
theorem new_nil_or (n : Int) : (n < 0 ∨ 16384 < n) ∨ (0 ≤ n ∧ n ≤ 16384) := by omega
set_option maxRecDepth 10000 in
set_option maxHeartbeats 4000000 in
theorem diskRoom_walk (n : Int) (_hn : -9223372036854775808 ≤ n ∧ n ≤ 9223372036854775807) (A : Option Addr) (c L : Nat) (V : Nat → Option Addr × Nat × List UInt8) (hm : L ≤ 9223372036854775807 ∧ (A = none → c = 0 ∧ L = 0) ∧ L ≤ c) (w : World) (hT : Texts w A L V) :
    Calls Try.prog 3 #[.int .i64 n, .slice A L c] w fun e w' => e = .returned (.bool true) ∧ Below w.heap.size w w' := by
  obtain ⟨hm1, _, hm3⟩ := hm
  have HT := Lib.hid hT
  clear hT _hn
  go_enter Try.func3, Try.ntmps3
  rcases new_nil_or n with hbad | ⟨h0, h1⟩
  · go_wp2_with fail
    refine (dnew_none n hbad w).mono ?_
    rintro e _ ⟨rfl, rfl⟩
    go_wp2_with fail
    refine (awake11 _).mono ?_
    rintro e w9 ⟨rfl, hb9⟩
    have HB9 := Lib.hid hb9
    clear hb9
    go_wp2_with fail
    go_ret
    exact ⟨rfl, HB9.out⟩
  · go_wp2_with fail
    refine (dnew_anyX n h0 h1 w).mono ?_
    rintro e w1 ⟨p, rfl, hd, hp, hb⟩
    have HDX : Hid (DKX (Apart (.slice none 0 0) []) w1 p (n * 64) [] 0) := Lib.hid (hd.mono fun _ _ h => Or.inl h)
    have HB := Lib.hid hb
    clear hd hb
    by_cases hL : L ≤ 20
    · have hL' : (L : Int) ≤ 20 := by omega
      go_wp2_with fail
      go_loopw [6, 22] (fun v i w' => ∃ (k : Nat) (D : List UInt8), k ≤ L ∧ i = .int .i64 k ∧ OwnBy w' w.heap.size v D ∧ DKX (Apart v D) w' p (n * 64) D 0 ∧ (D.length : Int) ≤ n * 64 ∧ Below w.heap.size w w') (fun _ i _ => L - (intOf i).toNat)
      case atStart => exact ⟨0, [], Nat.zero_le _, rfl, OwnBy.nil _ _, HDX.out, by simp; omega, HB.out⟩
      case round =>
        rename World => wr
        obtain ⟨k, D, hk, rfl, hown, hd, hdl, hb⟩ := hrel
        have HB2 := Lib.hid hb
        have HD2 := Lib.hid hd
        have HO2 := Lib.hid hown
        obtain ⟨Av, cv, rfl, i1, i2, _, _⟩ := hown.isBy
        have I1 := Lib.hid i1
        have hDn : D.length ≤ 1048576 := by omega
        clear hb hd hown i1 HB HDX
        have HFR : ∀ t : List UInt8, Hid (t ≠ [] → ∀ x : Addr, wr.heap.size ≤ x.block → Apart (.slice Av D.length cv) (D ++ t) (some x)) := fun t => Lib.hid fun ht x hx => Or.inr ⟨by simp [ht], fun y hy => by
          injection hy with hy
          subst hy
          intro e
          have := (HO2.out.lt _ e).2
          omega⟩
        by_cases hlt : k < L
        · obtain ⟨bk, ok, rfl, hc⟩ := HT.out.cell k hlt
          have hby := HT.out.by_ k hlt
          have hcap := HT.out.cap k hlt
          have hnil := HT.out.nil k hlt
          generalize hV : V k = z at *
          obtain ⟨Ak, ck, t⟩ := z
          have dk : wr.cell? ⟨bk, ok + k, none⟩ = some (.slice Ak t.length ck) := (HB2.out.cell (World.block_lt_of_cell? _ _ hc)).trans hc
          have HBY : Hid (IsBy wr Ak t) := Lib.hid (hby.below HB2.out)
          have HNIL : Hid (Ak = none → ck = 0) := Lib.hid hnil
          clear hc hby hcap hnil hV
          by_cases h400 : t.length ≤ 400
          · have h400' : (t.length : Int) ≤ 400 := by omega
            by_cases hfit : (t.length : Int) ≤ n * 64 - D.length
            · have g1 : decide ((D.length : Int) + t.length ≤ n * 64) = true := decide_eq_true (by omega)
              have g2 : decide ((D.length : Int) + t.length ≤ 64 * n) = true := decide_eq_true (by omega)
              go_wp2_with fail
              refine (dappend_okX (X := Apart (.slice Av D.length cv) (D ++ t)) (HD2.out.mono fun A1 _ h => h.imp id fun ⟨a1, a2⟩ => ⟨by simp [a1], a2⟩) (HFR t).out (by omega) (by omega) (by omega) HBY.out HNIL.out hfit).mono ?_
              rintro e w3 ⟨rfl, hd, hb⟩
              have HD3 := Lib.hid hd
              have HB3 := Lib.hid (HB2.out.trans (hb.below hp HB2.out.size))
              have HO3 := Lib.hid (HO2.out.bt HD2.out.dk hb)
              have HBY3 := Lib.hid (HBY.out.bt HD2.out.dk hb)
              clear hd hb
              go_wp2_with (at_builtin; refine wl_append_track rfl _ _ rfl w.heap.size _ D t Ak ck rfl HO3.out rfl HBY3.out HNIL.out ?c1 HB3.out.size ?_)
              case c1 => omega
              intro v' w4 hown hg hv
              have HO4 := Lib.hid hown
              have HB4 := Lib.hid (HB3.out.trans (HO3.out.grown HB3.out.size hg))
              have HD4 := Lib.hid (HD3.out.grown HO3.out hg hv)
              clear hown hg hv
              go_wp2_with fail
              go_roundw
              case rel => exact ⟨k + 1, D ++ t, by omega, by go_num, HO4.out, HD4.out, by rw [List.length_append]; omega, HB4.out⟩
              case measure => simp [intOf]; omega
            · have g1 : decide ((D.length : Int) + t.length ≤ n * 64) = false := decide_eq_false (by omega)
              have g2 : decide ((D.length : Int) + t.length ≤ 64 * n) = false := decide_eq_false (by omega)
              go_wp2_with fail
              refine (dappend_full HD2.out.dk (by omega) (by omega) (by omega) (by omega)).mono ?_
              rintro e w3 ⟨rfl, hb⟩
              have HD3 := Lib.hid (HD2.out.below hb)
              have HB3 := Lib.hid (bthen HB2.out hb)
              have HO3 := Lib.hid (HO2.out.below hb)
              clear hb
              go_wp2_with fail
              go_roundw
              case rel => exact ⟨k + 1, D, by omega, by go_num, HO3.out, HD3.out, hdl, HB3.out⟩
              case measure => simp [intOf]; omega
          · have h400' : ¬ (t.length : Int) ≤ 400 := by omega
            go_wp2_with fail
            refine (awake11 _).mono ?_
            rintro e w9 ⟨rfl, hb9⟩
            have HB9 := Lib.hid (bthen HB2.out hb9)
            clear hb9
            go_wp2_with fail
            go_ret
            exact ⟨rfl, HB9.out⟩
        · have HDK := Lib.hid HD2.out.dk
          go_upto_region 16 with fail
          refine wp_region_held_drew (S := fun w' : World => IsBy w' Av D ∧ DK w' p (n * 64) D 0 ∧ Hid (Below w.heap.size w w')) (by kernel_rfl) ⟨I1.out.below (Below.refl _ _).drew, HDK.out.below (Below.refl _ _).drew, Lib.hid HB2.out.drew⟩ (fun hS => ?_)
          clear HB2 HDK I1 HD2 HO2
          generalize wr.drew = W1 at *
          refine held_take (i := 0) (by simp only [List.getElem?_toArray, List.getElem?_cons_succ, List.getElem?_cons_zero]; rfl) (by decide +kernel) (by decide +kernel) (by decide +kernel) (by exact fun _ _ _ _ h => h) hS (by rfl) ?_
          apply Exists.intro
          refine ⟨fun w' hSw => ?_, ?_⟩
          · go_simp
            with_reducible rfl
          (try simp only [act_put, act_put_none, List.set_cons_zero, List.set_cons_succ])
          refine held_take (i := 3) (by simp only [List.getElem?_toArray, List.getElem?_cons_succ, List.getElem?_cons_zero]; rfl) (by decide +kernel) (by decide +kernel) (by decide +kernel) (by exact fun _ _ _ _ h => h) hS (by rfl) ?_
          apply Exists.intro
          refine ⟨fun w' hSw => ?_, ?_⟩
          · go_simp
            with_reducible rfl
          (try simp only [act_put, act_put_none, List.set_cons_zero, List.set_cons_succ])
          refine held_take (i := 4) (by simp only [List.getElem?_toArray, List.getElem?_cons_succ, List.getElem?_cons_zero]; rfl) (by decide +kernel) (by decide +kernel) (by decide +kernel) (by exact fun _ _ _ _ h => h) hS (by rfl) ?_
          apply Exists.intro
          refine ⟨fun w' hSw => ?_, ?_⟩
          · obtain ⟨q1, _⟩ := hSw
            have hcv := convD (c := cv) q1
            go_simp
            with_reducible rfl
          (try simp only [act_put, act_put_none, List.set_cons_zero, List.set_cons_succ])
          refine wpAnyH_ready (rs := [1]) (by decide +kernel) (by simp) ?_
          refine AllReadyH.cons (i := 1) (by simp only [List.getElem?_toArray, List.getElem?_cons_succ, List.getElem?_cons_zero]; rfl) (fun K hK => ?_) ?_
          · go_simp
            go_at_call 12
            refine (dbytes_any hS.2.1 (by omega)).mono ?_
            rintro e v1 ⟨g, rfl, hr, _, hb⟩
            have HX := Lib.hid hb
            have hby := isBy_full hr
            clear hb hr
            go_simp
            refine hK.out _ _ ⟨hS.1.below HX.out, hS.2.1.below HX.out, Lib.hid (bthen hS.2.2.out HX.out)⟩ (fun hS2 => ?_)
            clear hS hK K
            have hS := hS2
            clear hS2
            clear HX
            (try simp only [act_put, act_put_none, List.set_cons_zero, List.set_cons_succ])
            refine wpAnyH_ready (rs := [2]) (by decide +kernel) (by simp) ?_
            refine AllReadyH.cons (i := 2) (by simp only [List.getElem?_toArray, List.getElem?_cons_succ, List.getElem?_cons_zero]; rfl) (fun K hK => ?_) ?_
            · have hcv := convD (c := D.length) hby
              go_simp
              refine hK.out _ _ hS (fun hS2 => ?_)
              clear hK K hS2 hcv hby
              (try simp only [act_put, act_put_none, List.set_cons_zero, List.set_cons_succ])
              refine held_take (i := 5) (by simp only [List.getElem?_toArray, List.getElem?_cons_succ, List.getElem?_cons_zero]; rfl) (by decide +kernel) (by decide +kernel) (by decide +kernel) (by exact fun _ _ _ _ h => h) hS (by rfl) ?_
              apply Exists.intro
              refine ⟨fun w' hSw => ?_, ?_⟩
              · go_simp
                with_reducible rfl
              (try simp only [act_put, act_put_none, List.set_cons_zero, List.set_cons_succ])
              refine held_take (i := 6) (by simp only [List.getElem?_toArray, List.getElem?_cons_succ, List.getElem?_cons_zero]; rfl) (by decide +kernel) (by decide +kernel) (by decide +kernel) (by exact fun _ _ _ _ h => h) hS (by rfl) ?_
              apply Exists.intro
              refine ⟨fun w' hSw => ?_, ?_⟩
              · go_simp
                with_reducible rfl
              (try simp only [act_put, act_put_none, List.set_cons_zero, List.set_cons_succ])
              refine held_take (i := 7) (by simp only [List.getElem?_toArray, List.getElem?_cons_succ, List.getElem?_cons_zero]; rfl) (by decide +kernel) (by decide +kernel) (by decide +kernel) (by exact fun _ _ _ _ h => h) hS (by rfl) ?_
              apply Exists.intro
              refine ⟨fun w' hSw => ?_, ?_⟩
              · go_simp
                with_reducible rfl
              (try simp only [act_put, act_put_none, List.set_cons_zero, List.set_cons_succ])
              refine wpAnyH_ready (rs := [8]) (by decide +kernel) (by simp) ?_
              refine AllReadyH.cons (i := 8) (by simp only [List.getElem?_toArray, List.getElem?_cons_succ, List.getElem?_cons_zero]; rfl) (fun K hK => ?_) ?_
              · go_simp
                go_at_call 13
                refine (dsafe_any hS.2.1).mono ?_
                rintro e _ ⟨rfl, rfl⟩
                go_simp
                refine hK.out _ _ hS (fun hS2 => ?_)
                clear hK K hS2
                (try simp only [act_put, act_put_none, List.set_cons_zero, List.set_cons_succ])
                refine held_take (i := 9) (by simp only [List.getElem?_toArray, List.getElem?_cons_succ, List.getElem?_cons_zero]; rfl) (by decide +kernel) (by decide +kernel) (by decide +kernel) (by exact fun _ _ _ _ h => h) hS (by rfl) ?_
                apply Exists.intro
                refine ⟨fun w' hSw => ?_, ?_⟩
                · go_simp
                  with_reducible rfl
                (try simp only [act_put, act_put_none, List.set_cons_zero, List.set_cons_succ])
                refine held_take (i := 10) (by simp only [List.getElem?_toArray, List.getElem?_cons_succ, List.getElem?_cons_zero]; rfl) (by decide +kernel) (by decide +kernel) (by decide +kernel) (by exact fun _ _ _ _ h => h) hS (by rfl) ?_
                apply Exists.intro
                refine ⟨fun w' hSw => ?_, ?_⟩
                · go_simp
                  with_reducible rfl
                (try simp only [act_put, act_put_none, List.set_cons_zero, List.set_cons_succ])
                refine held_take (i := 11) (by simp only [List.getElem?_toArray, List.getElem?_cons_succ, List.getElem?_cons_zero]; rfl) (by decide +kernel) (by decide +kernel) (by decide +kernel) (by exact fun _ _ _ _ h => h) hS (by rfl) ?_
                apply Exists.intro
                refine ⟨fun w' hSw => ?_, ?_⟩
                · go_simp
                  with_reducible rfl
                (try simp only [act_put, act_put_none, List.set_cons_zero, List.set_cons_succ])
                refine wpAnyH_ready (rs := [12]) (by decide +kernel) (by simp) ?_
                refine AllReadyH.cons (i := 12) (by simp only [List.getElem?_toArray, List.getElem?_cons_succ, List.getElem?_cons_zero]; rfl) (fun K hK => ?_) ?_
                · go_simp
                  go_at_call 10
                  refine (awake11 _).mono ?_
                  rintro e v3 ⟨rfl, hb⟩
                  have HX := Lib.hid hb
                  clear hb
                  go_simp
                  refine hK.out _ _ ⟨hS.1.below HX.out, hS.2.1.below HX.out, Lib.hid (bthen hS.2.2.out HX.out)⟩ (fun hS2 => ?_)
                  clear hS hK K
                  have hS := hS2
                  clear hS2
                  clear HX
                  (try simp only [act_put, act_put_none, List.set_cons_zero, List.set_cons_succ])
                  refine held_take (i := 13) (by simp only [List.getElem?_toArray, List.getElem?_cons_succ, List.getElem?_cons_zero]; rfl) (by decide +kernel) (by decide +kernel) (by decide +kernel) (by exact fun _ _ _ _ h => h) hS (by rfl) ?_
                  apply Exists.intro
                  refine ⟨fun w' hSw => ?_, ?_⟩
                  · go_simp
                    with_reducible rfl
                  (try simp only [act_put, act_put_none, List.set_cons_zero, List.set_cons_succ])
                  refine held_take (i := 14) (by simp only [List.getElem?_toArray, List.getElem?_cons_succ, List.getElem?_cons_zero]; rfl) (by decide +kernel) (by decide +kernel) (by decide +kernel) (by exact fun _ _ _ _ h => h) hS (by rfl) ?_
                  apply Exists.intro
                  refine ⟨fun w' hSw => ?_, ?_⟩
                  · go_simp
                    with_reducible rfl
                  (try simp only [act_put, act_put_none, List.set_cons_zero, List.set_cons_succ])
                  refine wpAnyH_done (by decide +kernel) ?_ _
                  have HS := Lib.hid hS.2.2.out
                  clear hS
                  go_wp2_with fail
                  go_ret
                  exact ⟨rfl, HS.out⟩
                exact AllReadyH.nil
              exact AllReadyH.nil
            exact AllReadyH.nil
          exact AllReadyH.nil
    · have hL' : ¬ (L : Int) ≤ 20 := by omega
      go_wp2_with fail
      refine (awake11 _).mono ?_
      rintro e w9 ⟨rfl, hb9⟩
      have HB9 := Lib.hid (bthen HB.out hb9)
      clear hb9
      go_wp2_with fail
      go_ret
      exact ⟨rfl, HB9.out⟩
end Go.Proofs.Ytfnbcafilbafgaa
