/-
  Layer 15 (net): the walk of NetOrder.
-/
import Derived.Test.YtlocoieknabiaaaZNet6
import Derived.Test.YtlocoieknabiaaaZAwake15
namespace Go.Proofs.Ytlocoieknabiaaa
set_option maxRecDepth 20000
open Go.RowKit
set_option linter.unusedSimpArgs false
set_option linter.unusedVariables false
attribute [local go_sem] rowCells rowAt_drewN rowAt_alloc rowAt_drew setRow_alloc setRow_drewN setRow_drew setCell_alloc setCell_drewN rowAt_setRow rowAt_setCell Later.cell Later.frozen
attribute [local go_sem ↓] xload_msg xstore_msg xalloc_msg xbuildS_msg
attribute [local go_sem] load_msg load_msg_later store_msg Msg.size Msg.cut_all Msg.splice_all buildSM_agg
theorem len_c {X : Nat → Prop} {w : World} {g q : Nat} {room s c l d : Int} {ps : List (List UInt8)} (h : NT X w g q room ps s c l d) {n : Nat} (hn : ps.length = n) : Calls Try.prog 12 #[.pointer (some ⟨g, 0, none⟩)] w fun e w' => e = .returned (.int .i64 (n : Int)) ∧ Below w.heap.size w w' :=
  hn ▸ len_b h
theorem without_drop {S : List Msg} {k : Nat} : without (psOf (S.drop k)) 0 = psOf (S.drop (k + 1)) := by
  unfold without psOf
  rw [List.take_zero, List.nil_append, ← List.map_drop, List.drop_drop]
theorem psOf_drop_get {S : List Msg} {k : Nat} (hk : k < S.length) : (psOf (S.drop k)).getD 0 [] = msgW (S.getD k msg0) := by
  simp [psOf, List.getD, hk]
theorem psOf_drop_len {S : List Msg} {k : Nat} : (psOf (S.drop k)).length = S.length - k := by simp [psOf]
/-- The row's block. -/
theorem own_msg' {w : World} {B c : Nat} {a : Option Addr} {S : List Msg} (h : w.ownsRow B 30 12 (.slice a S.length c) S.length (msgV S)) {i : Nat} (hi : i < S.length) :
    ∃ g, a = some ⟨g, 0, none⟩ ∧ B ≤ g ∧ g < w.heap.size ∧ loadAgg Try.prog w 30 (.pointer (some ⟨g, i * 12, none⟩)) = .ok (.value (.agg (S.getD i msg0).cells)) w := by
  obtain ⟨g, c', e, h1, h2, h3⟩ := own_msg h hi
  injection e with e
  exact ⟨g, e, h1, h2, h3⟩
set_option maxHeartbeats 8000000 in
theorem netOrder_walk (A : Option Addr) (n c : Nat) (M : Nat → Msg) (hnc : n ≤ c) (hc9 : c ≤ 9223372036854775807) (hA : A = none → c = 0) (w : World) (h : MsgsIs w A n M) :
    Calls Try.prog 3 #[.slice A n c] w fun e w' => e = .returned (.bool true) ∧ Below w.heap.size w w' := by
  have HM := Lib.hid h
  clear h
  by_cases hn : 20 < n
  · go_enter Try.func3, Try.ntmps3
    go_wp2_with fail
    refine (awake15 _).mono ?_
    rintro e w2 ⟨rfl, hb⟩
    have HB2 := Lib.hid hb
    clear hb
    go_wp2
    go_ret
    exact ⟨rfl, HB2.out⟩
  · go_enter Try.func3, Try.ntmps3
    go_wp2_with fail
    refine (netNew_ok (X := Off (.slice none 0 0)) 256 _ (by decide) (by decide)).mono ?_
    rintro e w1 ⟨g, q, rfl, hnt, hq, hb⟩
    have HS0 : Hid (NS w w1 g q (psOf (sentL M 0)) ((sentL M 0).length : Nat) 0 0 0 (sentL M 0) (.slice none 0 0)) := Lib.hid ⟨hnt, own_nil _ _ _ _, hb, hq⟩
    clear hnt hq hb
    go_wp2_with fail
    go_loopw [4, 18] (fun v i w' => ∃ k : Nat, k ≤ n ∧ i = .int .i64 k ∧ NS w w' g q (psOf (sentL M k)) ((sentL M k).length : Nat) 0 0 0 (sentL M k) v) (fun _ i _ => n - (intOf i).toNat)
    case atStart => exact ⟨0, Nat.zero_le _, rfl, HS0.out⟩
    case round =>
      rename World => wr
      obtain ⟨k, hk, rfl, hs⟩ := hrel
      have HS := Lib.hid hs
      clear HS0 hs
      have hlen := sentL_len M k
      by_cases hlt : k < n
      · obtain ⟨b, o, rfl, hl⟩ := (HM.out.below HS.out.bel).load hlt
        have HK := Lib.hid ((HM.out.below HS.out.bel).ok k hlt)
        have HSL : Hid (sentL M (k + 1) = if rightM (M k) = true then sentL M k ++ [M k] else sentL M k) := Lib.hid rfl
        obtain ⟨m, hm⟩ : ∃ m, M k = m := ⟨_, rfl⟩
        rw [hm] at hl HK HSL
        clear hm
        obtain ⟨S, hS⟩ : ∃ S, sentL M k = S := ⟨_, rfl⟩
        rw [hS] at HS HSL hlen
        clear hS
        obtain ⟨fb, hfb⟩ : ∃ b, few13B m.fn m.fl m.pn m.po = b := ⟨_, rfl⟩
        have HF := Lib.hid (fun (w' : World) (o : MsgOk w' m) => few14_is o hfb)
        clear hfb
        go_wp2_with fail
        have hal : Below wr.heap.size wr (wr.alloc (.cells m.cells 30)) := (Below.refl _ _).alloc (Nat.le_refl _) _
        have hsz0 := HS.out.sizes
        refine (HF.out _ (HK.out.below hal)).mono ?_
        rintro e w2 ⟨rfl, hb⟩
        have r2 := rowKeep hb (rowAt_alloc_at wr m.cells 30 _ rfl)
        have hb2 := bthen hal hb
        have HS2 := Lib.hid (HS.out.below hb2)
        have HK2 := Lib.hid (HK.out.below hb2)
        clear hal hb hb2 HS HK hl
        cases fb
        · go_wp2_with fail
          refine (awake15 _).mono ?_
          rintro e w3 ⟨rfl, hb⟩
          have HB3 := Lib.hid (bthen HS2.out.bel hb)
          clear hb
          go_wp2
          go_ret
          exact ⟨rfl, HB3.out⟩
        · go_wp2_with fail
          obtain ⟨R, hR⟩ : ∃ R, rightM m = R := ⟨_, rfl⟩
          cases R
          · have HSL2 : Hid (sentL M (k + 1) = S) := Lib.hid (by rw [HSL.out, if_neg (by rw [hR]; decide)])
            refine (send_no m g hR HK2.out).mono ?_
            rintro e w3 ⟨rfl, hb⟩
            have HS3 := Lib.hid (HS2.out.below hb)
            clear hb HS2 HK2 HSL r2
            go_wp2_with fail
            go_roundw
            case rel => exact ⟨k + 1, by omega, by go_num, by rw [HSL2.out]; exact HS3.out⟩
            case measure => simp [intOf]; omega
          · have HSL2 : Hid (sentL M (k + 1) = S ++ [m]) := Lib.hid (by rw [HSL.out, if_pos hR])
            have hsz := HS2.out.sizes
            refine (send_m m hR HK2.out HS2.out.net (by rw [psOf_len]; omega) (by rw [psOf_len]; omega) (by omega) HS2.out.off).mono ?_
            rintro e w3 ⟨rfl, hn3, ht⟩
            have r3 := ht.row (by omega) (by omega) r2
            have hs3 := HS2.out.two hn3 ht
            rw [← psOf_snoc] at hs3
            have HS3 := Lib.hid hs3
            have hsz3 : g < w3.heap.size := hs3.sizes.1
            clear hs3 hn3 ht HS2 HK2 HSL r2 hR
            go_wp2_with (at_builtin; refine wl_append_rows3 Try.underlying22 info_msg (Msg.size _) (by decide) rfl _ _ rfl rfl (own_alloc HS3.out.own _) _ 1 1 m.cells.toList rfl ?c1 ?c2 ?c3 ?c4 ?c5 ?c6 ?_)
            case c1 => rw [Array.length_toList, m.size]
            case c2 => intro j u hu; rw [Addr.add_lit, Nat.zero_add, cell_of_rowAt (rowAt_alloc_at _ _ _ _ rfl), ← hu]; simp
            case c3 => exact fun u hu => (Array.all_eq_true_iff_forall_mem.1 m.one) u (by simpa using hu)
            case c4 => omega
            case c5 => omega
            case c6 => simp; omega
            intro v' w4 hown hgr hat
            have hs4 := (HS3.out.below ((Below.refl _ _).alloc (Nat.le_refl _) _)).push (T := S ++ [m]) (by rw [List.length_append, msgV_app, msgV_one]; exact hown) hgr (by rw [World.size_alloc]; exact hat)
            have HS4 := Lib.hid hs4
            clear hown hgr hat hs4 HS3 r3
            go_wp2_with fail
            go_roundw
            case rel => exact ⟨k + 1, by omega, by go_num, by rw [HSL2.out]; simpa using HS4.out⟩
            case measure => simp [intOf]; omega
      · obtain rfl : k = n := by omega
        have HOK : Hid (∀ m ∈ sentL M k, MsgOk w m ∧ rightM m = true) := Lib.hid (sentL_ok HM.out.ok)
        obtain ⟨S, hS⟩ : ∃ S, sentL M k = S := ⟨_, rfl⟩
        rw [hS] at HS hlen HOK
        clear hS
        obtain ⟨a, cc, rfl⟩ := own_slice HS.out.own
        go_wp2_with fail
        go_loopw [37] (fun i w' => ∃ j : Nat, j ≤ S.length ∧ i = .int .i64 j ∧ NS w w' g q (psOf (S.drop j)) (S.length : Nat) j 0 0 S (.slice a S.length cc)) (fun i _ => S.length - (intOf i).toNat)
        case atStart => exact ⟨0, Nat.zero_le _, rfl, HS.out⟩
        case round =>
          rename World => wq
          obtain ⟨j, hj, rfl, hs⟩ := hrel
          have HT := Lib.hid hs
          clear HS hs
          by_cases hlt : j < S.length
          · obtain ⟨gb, rfl, _, hgb, hl⟩ := own_msg' HT.out.own hlt
            have HO := Lib.hid (HOK.out _ (getD_mem hlt))
            have HP := Lib.hid (psOf_drop_get hlt)
            obtain ⟨m, hm⟩ : ∃ m, S.getD j msg0 = m := ⟨_, rfl⟩
            rw [hm] at hl HO HP
            clear hm
            go_wp2_with fail
            have hal : Below wq.heap.size wq (wq.alloc (.cells m.cells 30)) := (Below.refl _ _).alloc (Nat.le_refl _) _
            have hsz0 := HT.out.sizes
            have HT2 := Lib.hid (HT.out.below hal)
            have r2 : rowAt (wq.alloc (.cells m.cells 30)) wq.heap.size = some (m.cells, 30) := rowAt_alloc_at _ _ _ _ rfl
            refine (take_m m (k := 0) HT2.out.net (by rw [psOf_drop_len]; omega) (by rw [psOf_drop_len]; omega) (by omega) HO.out.2 HO.out.1 HP.out HT2.out.off).mono ?_
            rintro e w3 ⟨A', c', H, rfl, ho3, hn3, ht⟩
            have r3 := ht.row (by omega) (by omega) r2
            rw [without_drop] at hn3
            have hs3 := HT2.out.two hn3 ht
            have HS3 := Lib.hid hs3
            have HR3 := Lib.hid ho3
            have HO3 := Lib.hid (HO.out.1.below hs3.bel)
            clear hs3 hn3 ht ho3 HT2 HT HP hl hal r2
            have n3 := rowAt_lt r3
            have HQ := Lib.hid (fun (w' : World) (o : MsgOk w' m) (q : MsgOk w' (reM m A' c' H)) => msame_yes m A' c' H w' o q)
            obtain ⟨m2, hm2⟩ : ∃ m2, reM m A' c' H = m2 := ⟨_, rfl⟩
            rw [hm2] at HR3 HQ
            rw [hm2]
            clear hm2
            have HB3 := Lib.hid ((Below.refl w3.heap.size w3).alloc (Nat.le_refl _) (.cells m2.cells 30))
            go_upto_region 17 with fail
            refine region_seq ?_
            repeat (go_big_quiet_step ((first | (go_at_call 11; exact quiet_call (by simp) (HQ.out _ (HO3.out.below (bthen HB3.out (Later.below _))) (HR3.out.below (bthen HB3.out (Later.below _))))))))
            refine wpQuiet_nil ?_
            intro w4 hb
            have HS4 := Lib.hid (HS3.out.below (bthen HB3.out hb))
            clear hb HS3 HR3 HO3 HQ HB3
            go_wp2_with fail
            go_roundw
            case rel => exact ⟨j + 1, by omega, by go_num, by simpa using HS4.out⟩
            case measure => simp [intOf]; omega
          · obtain rfl : j = S.length := by omega
            go_upto_region 20 with fail
            refine region_seq ?_
            repeat (go_big_quiet_step ((first | (go_at_call 12; exact quiet_call (by simp) (len_c (n := 0) (HT.out.net.below (Later.below _)) (by rw [psOf_drop_len]; omega))) | (go_at_call 6; exact quiet_call (by simp) (awake15 _)))))
            refine wpQuiet_nil ?_
            intro w4 hb
            have HB4 := Lib.hid (bthen HT.out.bel hb)
            clear hb
            go_wp2
            go_ret
            exact ⟨rfl, HB4.out⟩
end Go.Proofs.Ytlocoieknabiaaa
