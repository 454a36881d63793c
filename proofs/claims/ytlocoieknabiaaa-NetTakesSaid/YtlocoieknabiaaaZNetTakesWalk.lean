/-
  Layer 15 (net): the walk of NetTakes.
-/
import Derived.Test.YtlocoieknabiaaaZNetMore
namespace Go.Proofs.Ytlocoieknabiaaa
set_option maxRecDepth 20000
open Go.RowKit
set_option linter.unusedSimpArgs false
set_option linter.unusedVariables false
attribute [local go_sem] rowCells rowAt_drewN rowAt_alloc rowAt_drew setRow_alloc setRow_drewN setRow_drew setCell_alloc setCell_drewN rowAt_setRow rowAt_setCell Later.cell Later.frozen
attribute [local go_sem ↓] xload_msg xstore_msg xalloc_msg xbuildS_msg
attribute [local go_sem] load_msg load_msg_later store_msg Msg.size Msg.cut_all Msg.splice_all buildSM_agg
set_option maxHeartbeats 8000000 in
theorem netTakes_walk (A : Option Addr) (n c : Nat) (M : Nat → Msg) (hnc : n ≤ c) (hc9 : c ≤ 9223372036854775807) (hA : A = none → c = 0) (K : Int) (hK : -9223372036854775808 ≤ K ∧ K ≤ 9223372036854775807) (w : World) (h : MsgsIs w A n M) :
    Calls Try.prog 5 #[.slice A n c, .int .i64 K] w fun e w' => e = .returned (.bool true) ∧ Below w.heap.size w w' := by
  have HM := Lib.hid h
  clear h
  by_cases hn : 10 < n
  · go_enter Try.func5, Try.ntmps5
    go_wp2_with fail
    refine (awake15 _).mono ?_
    rintro e w2 ⟨rfl, hb⟩
    have HB2 := Lib.hid hb
    clear hb
    go_wp2
    go_ret
    exact ⟨rfl, HB2.out⟩
  · go_enter Try.func5, Try.ntmps5
    go_wp2_with fail
    refine (netNew_ok (X := Off (.slice none 0 0)) 256 _ (by decide) (by decide)).mono ?_
    rintro e w1 ⟨g, q, rfl, hnt, hq, hb⟩
    have HS0 : Hid (NS w w1 g q (psOf (sentL M 0)) ((sentL M 0).length : Nat) 0 0 0 (sentL M 0) (.slice none 0 0)) := Lib.hid ⟨hnt, own_nil _ _ _ _, hb, hq⟩
    clear hnt hq hb
    go_wp2_with fail
    go_loopw [6, 22] (fun v i w' => ∃ k : Nat, k ≤ n ∧ i = .int .i64 k ∧ NS w w' g q (psOf (sentL M k)) ((sentL M k).length : Nat) 0 0 0 (sentL M k) v) (fun _ i _ => n - (intOf i).toNat)
    case atStart => exact ⟨0, Nat.zero_le _, rfl, HS0.out⟩
    case round =>
      rename World => wr
      obtain ⟨k, hk, rfl, hs⟩ := hrel
      have HS := Lib.hid hs
      clear HS0 hs
      have hlen := sentL_len M k
      by_cases hlt : k < n
      · obtain ⟨b, o, rfl, hl⟩ := (HM.out.below HS.out.bel).load hlt
        have HK := Lib.hid ((HM.out.below HS.out.bel).ok k hlt)
        have HSL : Hid (sentL M (k + 1) = if rightM (M k) = true then sentL M k ++ [M k] else sentL M k) := Lib.hid rfl
        obtain ⟨m, hm⟩ : ∃ m, M k = m := ⟨_, rfl⟩
        rw [hm] at hl HK HSL
        clear hm
        obtain ⟨S, hS⟩ : ∃ S, sentL M k = S := ⟨_, rfl⟩
        rw [hS] at HS HSL hlen
        clear hS
        obtain ⟨fb, hfb⟩ : ∃ b, few13B m.fn m.fl m.pn m.po = b := ⟨_, rfl⟩
        have HF := Lib.hid (fun (w' : World) (o : MsgOk w' m) => few14_is o hfb)
        clear hfb
        go_wp2_with fail
        have hal : Below wr.heap.size wr (wr.alloc (.cells m.cells 30)) := (Below.refl _ _).alloc (Nat.le_refl _) _
        have hsz0 := HS.out.sizes
        refine (HF.out _ (HK.out.below hal)).mono ?_
        rintro e w2 ⟨rfl, hb⟩
        have r2 := rowKeep hb (rowAt_alloc_at wr m.cells 30 _ rfl)
        have hb2 := bthen hal hb
        have HS2 := Lib.hid (HS.out.below hb2)
        have HK2 := Lib.hid (HK.out.below hb2)
        clear hal hb hb2 HS HK hl
        cases fb
        · go_wp2_with fail
          refine (awake15 _).mono ?_
          rintro e w3 ⟨rfl, hb⟩
          have HB3 := Lib.hid (bthen HS2.out.bel hb)
          clear hb
          go_wp2
          go_ret
          exact ⟨rfl, HB3.out⟩
        · go_wp2_with fail
          obtain ⟨R, hR⟩ : ∃ R, rightM m = R := ⟨_, rfl⟩
          cases R
          · have HSL2 : Hid (sentL M (k + 1) = S) := Lib.hid (by rw [HSL.out, if_neg (by rw [hR]; decide)])
            refine (send_no m g hR HK2.out).mono ?_
            rintro e w3 ⟨rfl, hb⟩
            have HS3 := Lib.hid (HS2.out.below hb)
            clear hb HS2 HK2 HSL r2
            go_wp2_with fail
            go_roundw
            case rel => exact ⟨k + 1, by omega, by go_num, by rw [HSL2.out]; exact HS3.out⟩
            case measure => simp [intOf]; omega
          · have HSL2 : Hid (sentL M (k + 1) = S ++ [m]) := Lib.hid (by rw [HSL.out, if_pos hR])
            have hsz := HS2.out.sizes
            refine (send_m m hR HK2.out HS2.out.net (by rw [psOf_len]; omega) (by rw [psOf_len]; omega) (by omega) HS2.out.off).mono ?_
            rintro e w3 ⟨rfl, hn3, ht⟩
            have r3 := ht.row (by omega) (by omega) r2
            have hs3 := HS2.out.two hn3 ht
            rw [← psOf_snoc] at hs3
            have HS3 := Lib.hid hs3
            have hsz3 : g < w3.heap.size := hs3.sizes.1
            clear hs3 hn3 ht HS2 HK2 HSL r2 hR
            go_wp2_with (at_builtin; refine wl_append_rows3 Try.underlying22 info_msg (Msg.size _) (by decide) rfl _ _ rfl rfl (own_alloc HS3.out.own _) _ 1 1 m.cells.toList rfl ?c1 ?c2 ?c3 ?c4 ?c5 ?c6 ?_)
            case c1 => rw [Array.length_toList, m.size]
            case c2 => intro j u hu; rw [Addr.add_lit, Nat.zero_add, cell_of_rowAt (rowAt_alloc_at _ _ _ _ rfl), ← hu]; simp
            case c3 => exact fun u hu => (Array.all_eq_true_iff_forall_mem.1 m.one) u (by simpa using hu)
            case c4 => omega
            case c5 => omega
            case c6 => simp; omega
            intro v' w4 hown hgr hat
            have hs4 := (HS3.out.below ((Below.refl _ _).alloc (Nat.le_refl _) _)).push (T := S ++ [m]) (by rw [List.length_append, msgV_app, msgV_one]; exact hown) hgr (by rw [World.size_alloc]; exact hat)
            have HS4 := Lib.hid hs4
            clear hown hgr hat hs4 HS3 r3
            go_wp2_with fail
            go_roundw
            case rel => exact ⟨k + 1, by omega, by go_num, by rw [HSL2.out]; simpa using HS4.out⟩
            case measure => simp [intOf]; omega
      · obtain rfl : k = n := by omega
        have HOK : Hid (∀ m ∈ sentL M k, MsgOk w m ∧ rightM m = true) := Lib.hid (sentL_ok HM.out.ok)
        obtain ⟨S, hS⟩ : ∃ S, sentL M k = S := ⟨_, rfl⟩
        rw [hS] at HS hlen HOK
        clear hS
        obtain ⟨a, cc, rfl⟩ := own_slice HS.out.own
        by_cases hKK : K < 0 ∨ (S.length : Int) ≤ K
        · have g2 : (decide (K < 0) = true ∧ decide ((S.length : Int) ≤ K) = false) ∨ (decide (K < 0) = false ∧ decide ((S.length : Int) ≤ K) = true) := by
            rcases hKK with h | h
            · exact .inl ⟨decide_eq_true h, decide_eq_false (by omega)⟩
            · exact .inr ⟨decide_eq_false (by omega), decide_eq_true h⟩
          have HKK : Hid (K < 0 ∨ ((psOf S).length : Int) ≤ K) := Lib.hid (by rw [psOf_len]; exact hKK)
          clear hKK
          rcases g2 with ⟨g2, g3⟩ | ⟨g2, g3⟩
          all_goals
            go_wp2_with fail
            refine (take_none HS.out.net HKK.out).mono ?_
            rintro e w2 ⟨rfl, hb⟩
            have HS2 := Lib.hid (HS.out.below hb)
            have HB2 := Lib.hid ((Below.refl w2.heap.size w2).alloc (Nat.le_refl _) (.cells msg0.cells 30))
            clear hb HS
            go_upto_region 15 with fail
            refine region_seq ?_
            repeat (go_big_quiet_step ((first | (go_at_call 12; exact quiet_call (by simp) (len_c (n := S.length) (HS2.out.net.below (bthen HB2.out (Later.below _))) (psOf_len S))) | (go_at_call 6; exact quiet_call (by simp) (awake15 _)))))
            refine wpQuiet_nil ?_
            intro w4 hb
            have HB4 := Lib.hid (bthen HS2.out.bel (bthen HB2.out hb))
            clear hb
            go_wp2
            go_ret
            exact ⟨rfl, HB4.out⟩
        · obtain ⟨kk, rfl⟩ : ∃ kk : Nat, K = kk := ⟨K.toNat, by omega⟩
          have hkk : kk < S.length := by omega
          have g2 : decide ((kk : Int) < 0) = false := decide_eq_false (by omega)
          have g3 : decide ((S.length : Int) ≤ kk) = false := decide_eq_false (by omega)
          have g6 : decide (S.length ≤ kk) = false := decide_eq_false (by omega)
          clear hKK hK
          obtain ⟨gb, cur, rfl, hgb0, hgb, hrow, hcs, hcut⟩ := own_cut HS.out.own hkk
          have HO := Lib.hid (HOK.out _ (getD_mem hkk))
          have HP := Lib.hid (psOf_get S hkk)
          obtain ⟨m, hm⟩ : ∃ m, S.getD kk msg0 = m := ⟨_, rfl⟩
          rw [hm] at HO HP hcut
          clear hm
          have hsz0 := HS.out.sizes
          go_wp2_with fail
          refine (take_m m (k := kk) HS.out.net (by rw [psOf_len]; omega) (by rw [psOf_len]; omega) (by omega) HO.out.2 HO.out.1 HP.out HS.out.off).mono ?_
          rintro e w3 ⟨A', c', H, rfl, ho3, hn3, ht⟩
          have r3 := ht.row (by omega) (by omega) hrow
          have hgb3 := rowAt_lt r3
          rw [restL_start] at hn3
          have hs3 := HS.out.two hn3 ht
          have HS3 := Lib.hid hs3
          have HR3 := Lib.hid ho3
          have HO3 := Lib.hid (HO.out.1.below hs3.bel)
          clear hs3 hn3 ht ho3 HS HP HO hrow
          have HQ := Lib.hid (fun (w' : World) (o : MsgOk w' (reM m A' c' H)) (q : MsgOk w' m) => msame_yes' m A' c' H w' o q)
          obtain ⟨m2, hm2⟩ : ∃ m2, reM m A' c' H = m2 := ⟨_, rfl⟩
          rw [hm2] at HR3 HQ
          rw [hm2]
          clear hm2
          have HB3 := Lib.hid ((Below.refl w3.heap.size w3).alloc (Nat.le_refl _) (.cells m2.cells 30))
          go_upto_region 16 with fail
          refine region_quiet (by kernel_rfl) (by kernel_rfl) ?_
          repeat (go_big_quiet_step ((first | (go_at_call 11; exact quiet_call (by simp) (HQ.out _ (HR3.out.below (bthen HB3.out (Later.below _))) (HO3.out.below (bthen HB3.out (Later.below _))))))))
          refine wpQuiet_nil ?_
          intro w4 hb
          have HS4 := Lib.hid (HS3.out.below (bthen HB3.out hb))
          clear hb HS3 HR3 HO3 HQ HB3 r3 hcs hcut hgb hgb3 hsz0
          go_wp2_with fail
          go_loopw [78] (fun i w' => ∃ (j : Nat) (tk : Int), j ≤ S.length ∧ i = .int .i64 j ∧ 0 ≤ tk ∧ tk ≤ j + 1 ∧ NS w w' g q (psOf (restL S kk j)) (S.length : Nat) tk 0 0 S (.slice (some ⟨gb, 0, none⟩) S.length cc)) (fun i _ => S.length - (intOf i).toNat)
          case atStart => exact ⟨0, 1, Nat.zero_le _, rfl, by omega, by omega, by simpa using HS4.out⟩
          case round =>
            rename World => wq
            obtain ⟨j, tk, hj, rfl, ht0, ht1, hs⟩ := hrel
            have HT := Lib.hid hs
            clear HS4 hs
            by_cases hlt : j < S.length
            · obtain ⟨gb', hgg, _, hgb, hl⟩ := own_msg' HT.out.own hlt
              injection hgg with hgg
              injection hgg with hgg
              subst hgg
              have hal : ∀ o, Below wq.heap.size wq (wq.alloc o) := fun o => (Below.refl _ _).alloc (Nat.le_refl _) _
              have HAL := Lib.hid hal
              clear hal
              by_cases hjk : j = kk
              · subst hjk
                go_wp2_with fail
                go_roundw
                case rel => exact ⟨j + 1, tk, by omega, by go_num, by omega, by omega, by rw [restL_same]; simpa using HT.out.below (HAL.out _)⟩
                case measure => simp [intOf]; omega
              · have g4 : ((j : Int) == (kk : Int)) = false := by have : (j : Int) ≠ kk := by omega
                                                                  simpa using this
                have g5 : decide ((j : Int) = (kk : Int)) = false := decide_eq_false (by omega)
                have HH := Lib.hid (restL_head hkk hlt hjk)
                have HO := Lib.hid (HOK.out _ (getD_mem hlt))
                obtain ⟨m, hm⟩ : ∃ m, S.getD j msg0 = m := ⟨_, rfl⟩
                rw [hm] at hl HO HH
                clear hm
                have hsz0 := HT.out.sizes
                have HT2 := Lib.hid (HT.out.below (HAL.out (.cells m.cells 30)))
                have HL2 : Hid ((psOf (m :: restL S kk (j + 1))).length ≤ 1000000) := Lib.hid (by rw [psOf_len, ← HH.out, restL_len hkk]; omega)
                have r2 : rowAt (wq.alloc (.cells m.cells 30)) wq.heap.size = some (m.cells, 30) := rowAt_alloc_at _ _ _ _ rfl
                rw [HH.out] at HT2
                go_wp2_with fail
                refine (take_m m (k := 0) HT2.out.net (by simp [psOf]) HL2.out (by omega) HO.out.2 HO.out.1 (psOf_cons_get _ _) HT2.out.off).mono ?_
                rintro e w3 ⟨A', c', H, rfl, ho3, hn3, ht⟩
                have r3 := ht.row (by omega) (by omega) r2
                rw [without_cons] at hn3
                have hs3 := HT2.out.two hn3 ht
                have HS3 := Lib.hid hs3
                have HR3 := Lib.hid ho3
                have HO3 := Lib.hid (HO.out.1.below hs3.bel)
                clear hs3 hn3 ht ho3 HT2 HT hl r2
                have n3 := rowAt_lt r3
                have HQ := Lib.hid (fun (w' : World) (o : MsgOk w' m) (q : MsgOk w' (reM m A' c' H)) => msame_yes m A' c' H w' o q)
                obtain ⟨m2, hm2⟩ : ∃ m2, reM m A' c' H = m2 := ⟨_, rfl⟩
                rw [hm2] at HR3 HQ
                rw [hm2]
                clear hm2
                have HB3 := Lib.hid ((Below.refl w3.heap.size w3).alloc (Nat.le_refl _) (.cells m2.cells 30))
                go_upto_region 23 with fail
                refine region_seq ?_
                repeat (go_big_quiet_step ((first | (go_at_call 11; exact quiet_call (by simp) (HQ.out _ (HO3.out.below (bthen HB3.out (Later.below _))) (HR3.out.below (bthen HB3.out (Later.below _))))))))
                refine wpQuiet_nil ?_
                intro w4 hb
                have HS4 := Lib.hid (HS3.out.below (bthen HB3.out hb))
                clear hb HS3 HR3 HO3 HQ HB3
                go_wp2_with fail
                go_roundw
                case rel => exact ⟨j + 1, tk + 1, by omega, by go_num, by omega, by omega, by simpa using HS4.out⟩
                case measure => simp [intOf]; omega
            · obtain rfl : j = S.length := by omega
              have HL0 : Hid ((psOf (restL S kk S.length)).length = 0) := Lib.hid (by rw [psOf_len, restL_len hkk, if_neg (by omega)]; omega)
              go_upto_region 26 with fail
              refine region_seq ?_
              repeat (go_big_quiet_step ((first | (go_at_call 12; exact quiet_call (by simp) (len_c (n := 0) (HT.out.net.below (Later.below _)) HL0.out)) | (go_at_call 6; exact quiet_call (by simp) (awake15 _)))))
              refine wpQuiet_nil ?_
              intro w4 hb
              have HB4 := Lib.hid (bthen HT.out.bel hb)
              clear hb
              go_wp2
              go_ret
              exact ⟨rfl, HB4.out⟩
end Go.Proofs.Ytlocoieknabiaaa
