/-
  Layer 14 (message): the document's answer for what a format leaves of fields; rows of fields that are the same.
-/
import Derived.Test.YtmdojegiimhfcaaZSaid
namespace Go.Proofs.Ytmdojegiimhfcaa
set_option maxRecDepth 20000
open Go.RowKit
set_option linter.unusedSimpArgs false
set_option linter.unusedVariables false
attribute [local go_sem] rowCells rowAt_drewN get_ints getE_ints set_ints size_ints rowAt_alloc rowAt_drew setRow_alloc setRow_drewN setRow_drew setCell_alloc setCell_drewN splice_upd splice_put splice_all load_vec_cut load_vecs_cut load_rights_cut load_counter store_vec store_rights store_counter eql_vec neq_vec index_vec eql_rights neq_rights eql_counter index_vecs cut_ints sub_zero
attribute [local go_sem ↓] xload_vec xstore_vec xalloc_vec xeql_vec xneq_vec xindex_vec xbuild_vec0 xload_rights xstore_rights xalloc_rights xeql_rights xneq_rights xbuild_rights0 xload_vecs xindex_vecs xload_counter xstore_counter xalloc_counter xbuild_counter0 xeql_counter xbuild_counter3
attribute [local go_sem] rowAt_setRow rowAt_setCell load_vec_cut_later load_rights_later load_counter_later Later.cell Later.frozen build3_ints
attribute [local go_sem ↓] xload_field xstore_field xalloc_field xload_lock
attribute [local go_sem] load_field load_field_later store_field load_counter_cut load_lock_cut load_lock_later Fld.size Fld.get0 Fld.get1 Fld.get2 Fld.get586 Fld.getE0 Fld.getE1 Fld.getE2 Fld.getE586 Fld.cut_cnt Fld.cut_lock Fld.cut_all Fld.splice_all strT_size

attribute [local go_sem ↓] xload_hold xstore_hold xalloc_hold
attribute [local go_sem] load_hold load_hold_later store_hold
attribute [local go_sem ↓] xbuild_lock0 xeql_lock xneq_lock xneq_counter
attribute [local go_sem] eql_lock neq_lock neq_counter

attribute [local go_sem] zero_field
attribute [local go_sem ↓] xstore_res xload_res xalloc_res xbuild_res0
attribute [local go_sem] load_res store_res resC_size resC_all resC_splice resC_set0 resC_set1 Fld.set2 Fld.set586
attribute [local go_sem ↓] xbuildS_field
attribute [local go_sem] buildSF_agg

theorem rfright_at {F : Fld} {b : Bool} (e : rightF F = b) {w : World} (h : FldOk w F) : Calls Try.prog 41 #[.agg F.cells] w fun e w' => e = .returned (.bool b) ∧ Below w.heap.size w w' := by rw [← e]; exact rfieldRight_any F w h
theorem keep_in {v : Int} {F : Fld} (h : rightF F = true) (h1 : v = 1 ∨ v = 2) (he : F.epoch = 0) : keepB v F = true := by
  unfold keepB isV
  rcases h1 with rfl | rfl <;> simp [h, he]
set_option maxHeartbeats 4000000 in
theorem rsaid_ok (v : Int) (A : Option Addr) (n c : Nat) (L : Nat → Fld) (w : World) (h : FldsIs w A n L) (hn : n ≤ 100) :
    Calls Try.prog 19 #[.int .i64 v, .slice A n c] w fun e w' => ∃ A' c' H, e = .returned (.slice A' (saidL v L n).length c') ∧ RS w w' w.heap.size (saidL v L n) A' c' H ∧ Below w.heap.size w w' := by
  have HF := Lib.hid h
  have HFO := Lib.hid h.ok
  clear h
  go_enter Try.func19, Try.ntmps19
  go_wp2_with fail
  go_loopw [5, 6] (fun u i w' => ∃ (k : Nat) (A' : Option Addr) (c' : Nat) (H : Nat → Option Addr × Nat), k ≤ n ∧ i = .int .i64 k ∧ u = .slice A' (saidL v L k).length c' ∧ RS w w' w.heap.size (saidL v L k) A' c' H ∧ Below w.heap.size w w') (fun _ i _ => n - (intOf i).toNat)
  case atStart => exact ⟨0, none, 0, fun _ => (none, 0), Nat.zero_le _, rfl, rfl, RS.nil _ _ _, Below.refl _ _⟩
  case round =>
    rename World => wr
    obtain ⟨k, A', c', H, hk, rfl, rfl, hrs, hb⟩ := hrel
    have HRS := Lib.hid hrs
    have HB := Lib.hid hb
    have hlen := saidL_len v L k
    by_cases hlt : k < n
    · obtain ⟨b, o, hA, hlb, hnm, hl⟩ := (HF.out.below hb).at_ hlt
      have hl1 := hl wr (Below.refl _ _)
      have HK := Lib.hid ((HF.out.below hb).ok k hlt)
      have HK0 := Lib.hid (HFO.out k hlt)
      obtain ⟨F, hF⟩ : ∃ F, L k = F := ⟨_, rfl⟩
      rw [hF] at hl1 HK HK0
      rw [hA]
      have HSL : Hid (saidL v L (k + 1) = if keepB v F = true then saidL v L k ++ [sF v F] else saidL v L k) := Lib.hid (by rw [← hF]; rfl)
      clear hl hb hA hrs hnm hF
      obtain ⟨l, hll⟩ : ∃ l, saidL v L k = l := ⟨_, rfl⟩
      rw [hll] at HRS HSL hlen ⊢
      clear hll
      have hal : Below wr.heap.size wr (wr.alloc (.cells F.cells 50)) := (Below.refl _ _).alloc (Nat.le_refl _) _
      obtain ⟨q, hq⟩ : ∃ q, rightF F = q := ⟨_, rfl⟩
      go_wp2_with fail
      refine (rfright_at hq (HK.out.below hal)).mono ?_
      rintro e w4 ⟨rfl, hb4⟩
      have r4 : rowAt w4 wr.heap.size = some (F.cells, 50) := rowKeep hb4 (rowAt_alloc_at _ _ _ _ rfl)
      have hb4 := bthen hal hb4
      have HB4 := Lib.hid (bthen HB.out hb4)
      have HRS4 := Lib.hid (HRS.out.below hb4 HB4.out)
      have HOK4 := Lib.hid (HK.out.below hb4)
      have n4 := rowAt_lt r4
      have hbr := HB.out.size
      have HRS0 := Lib.hid HRS.out
      have HB4R := Lib.hid hb4
      clear HRS hl1 HK hal hb4
      have c2 : w4.cell? ⟨wr.heap.size, 2, none⟩ = some (.int .i64 F.epoch) := by rw [cell_of_rowAt r4, F.get2]
      have c586 : w4.cell? ⟨wr.heap.size, 586, none⟩ = some (.slice F.hA F.hn F.hc) := by rw [cell_of_rowAt r4, F.get586]
      have f586 := frozen_of_rowAt r4 586
      cases q
      · have hkb : keepB v F = false := by unfold keepB; rw [hq]; rfl
        have hsl := HSL.out
        rw [if_neg (by rw [hkb]; decide)] at hsl
        have HSL := Lib.hid hsl
        clear hsl hkb hq
        go_wp2_with fail
        go_roundw
        case rel => exact ⟨k + 1, A', c', H, by omega, by go_num, by rw [HSL.out], by rw [HSL.out]; exact HRS4.out, HB4.out⟩
        case measure => simp [intOf]; omega
      · by_cases hv1 : v < 1
        · have hkb : keepB v F = false := by unfold keepB isV; rw [hq]; simp; omega
          have g1 : decide (v < 1) = true := decide_eq_true hv1
          have hsl := HSL.out
          rw [if_neg (by rw [hkb]; decide)] at hsl
          have HSL := Lib.hid hsl
          clear hsl hkb hq
          go_wp2_with fail
          go_roundw
          case rel => exact ⟨k + 1, A', c', H, by omega, by go_num, by rw [HSL.out], by rw [HSL.out]; exact HRS4.out, HB4.out⟩
          case measure => simp [intOf]; omega
        · have g1 : decide (v < 1) = false := decide_eq_false hv1
          by_cases hv3 : 3 < v
          · have hkb : keepB v F = false := by unfold keepB isV; rw [hq]; simp; omega
            have g2 : decide (3 < v) = true := decide_eq_true hv3
            have hsl := HSL.out
            rw [if_neg (by rw [hkb]; decide)] at hsl
            have HSL := Lib.hid hsl
            clear hsl hkb hq
            go_wp2_with fail
            go_roundw
            case rel => exact ⟨k + 1, A', c', H, by omega, by go_num, by rw [HSL.out], by rw [HSL.out]; exact HRS4.out, HB4.out⟩
            case measure => simp [intOf]; omega
          · have hv : v = 3 ∨ (v = 1 ∨ v = 2) := by omega
            clear g1
            rcases hv with rfl | hv
            · have hkb : keepB 3 F = true := by unfold keepB; rw [hq]; rfl
              have hsl := HSL.out
              rw [if_pos hkb] at hsl
              have HSL := Lib.hid hsl
              clear hsl hkb
              have HFF : Hid (({ sF 3 F with hA := F.hA, hc := F.hc } : Fld) = F) := Lib.hid rfl
              have HOK5 : Hid (FldOk w4 F ∧ (HT w4 F ∨ FldOk w F)) := Lib.hid ⟨HOK4.out, .inr HK0.out⟩
              have HB5 := Lib.hid HB4.out
              have HRS5 := Lib.hid HRS4.out
              clear HRS4 HOK4 HB4 hq
              go_upto_region 9 with fail
              have r5 := r4
              have n5 := rowAt_lt r5
              clear r4 c2 c586 f586 n4
              go_wp2_with (at_builtin; refine wl_append_rows2 Try.underlying22 info_field fld0.size (by decide) rfl _ _ rfl rfl (own_alloc HRS5.out.own _) _ 1 1 F.cells.toList rfl ?c1 (fun h => by cases h) ?c2 ?c3 ?c4 ?c5 ?c6 ?_)
              case c1 => rw [Array.length_toList, F.size]
              case c2 => intro j u hu; exact ⟨w4.heap.size, 0, rfl, by rw [Nat.zero_add, cell_of_rowAt (rowAt_alloc_at _ _ _ _ rfl), ← hu]; simp⟩
              case c3 => exact fun u hu => (Array.all_eq_true_iff_forall_mem.1 F.one) u (by simpa using hu)
              case c4 => omega
              case c5 => omega
              case c6 => have := HB5.out.size; simp; omega
              intro v' w7 hown hb hgr
              have hal3 : Below w4.heap.size w4 (w4.alloc (.cells F.cells 50)) := (Below.refl _ _).alloc (Nat.le_refl _) _
              have hkp := (KeepH.below hal3).trans (KeepH.grown (own_alloc HRS5.out.own _) hgr (by decide))
              have h07 := (bthen HB5.out hal3).trans hb
              obtain ⟨a7, d7, H7, rfl, hrs7⟩ := HRS5.out.push HFF.out hown hkp h07 (fld_step hkp h07 HOK5.out)
              have HRS7 := Lib.hid hrs7
              have HB7 := Lib.hid h07
              clear hown hb hgr hal3 hkp h07 hrs7 HRS5 HB5 HOK5 HFF r5
              go_wp2_with fail
              go_roundw
              case rel => exact ⟨k + 1, a7, d7, H7, by omega, by go_num, by rw [HSL.out], by rw [HSL.out]; exact HRS7.out, HB7.out⟩
              case measure => simp [intOf]; omega
            · by_cases he : F.epoch = 0
              · have hkb := keep_in hq hv he
                have ge : decide (F.epoch = 0) = true := decide_eq_true he
                rcases hv with rfl | rfl
                · have hsl := HSL.out
                  rw [if_pos hkb] at hsl
                  have HSL := Lib.hid hsl
                  clear hsl hkb
                  obtain ⟨W5, hW5⟩ : ∃ W5, w4.setCell ⟨wr.heap.size, 586, none⟩ (.slice none 0 0) = W5 := ⟨_, rfl⟩
                  obtain ⟨F', hF'⟩ : ∃ F', ({ F with hA := none, hn := 0, hc := 0 } : Fld) = F' := ⟨_, rfl⟩
                  have r5 : rowAt W5 wr.heap.size = some (F'.cells, 50) := by rw [← hW5, ← hF']; exact row_set_same r4 (Fld.set586 _ _ _ _)
                  have hbs : Below wr.heap.size wr W5 := by rw [← hW5]; exact below_setCell' HB4R.out (Nat.le_refl _)
                  have HB5 := Lib.hid (bthen HB.out hbs)
                  have HRS5 := Lib.hid (HRS0.out.below hbs HB5.out)
                  have HFF : Hid (({ sF 1 F with hA := none, hc := 0 } : Fld) = F') := Lib.hid (by rw [← hF']; rfl)
                  have HOK5 : Hid (FldOk W5 F' ∧ (HT W5 F' ∨ FldOk w F')) := Lib.hid (by
                    rw [← hF']
                    exact ⟨⟨fun i hi => by simp at hi, Nat.zero_le _, fun _ => rfl, ⟨HOK4.out.big.1, Nat.zero_le _⟩⟩, .inl (fun x hx => by cases hx)⟩)
                  clear hF' hbs HRS4 HOK4 HB4 hq
                  go_upto_region 9 with fail
                  try rw [hW5]
                  have n5 := rowAt_lt r5
                  clear hW5 r4 c2 c586 f586 n4
                  go_wp2_with (at_builtin; refine wl_append_rows2 Try.underlying22 info_field fld0.size (by decide) rfl _ _ rfl rfl (own_alloc HRS5.out.own _) _ 1 1 F'.cells.toList rfl ?c1 (fun h => by cases h) ?c2 ?c3 ?c4 ?c5 ?c6 ?_)
                  case c1 => rw [Array.length_toList, F'.size]
                  case c2 => intro j u hu; exact ⟨W5.heap.size, 0, rfl, by rw [Nat.zero_add, cell_of_rowAt (rowAt_alloc_at _ _ _ _ rfl), ← hu]; simp⟩
                  case c3 => exact fun u hu => (Array.all_eq_true_iff_forall_mem.1 F'.one) u (by simpa using hu)
                  case c4 => omega
                  case c5 => omega
                  case c6 => have := HB5.out.size; simp; omega
                  intro v' w7 hown hb hgr
                  have hal3 : Below W5.heap.size W5 (W5.alloc (.cells F'.cells 50)) := (Below.refl _ _).alloc (Nat.le_refl _) _
                  have hkp := (KeepH.below hal3).trans (KeepH.grown (own_alloc HRS5.out.own _) hgr (by decide))
                  have h07 := (bthen HB5.out hal3).trans hb
                  obtain ⟨a7, d7, H7, rfl, hrs7⟩ := HRS5.out.push HFF.out hown hkp h07 (fld_step hkp h07 HOK5.out)
                  have HRS7 := Lib.hid hrs7
                  have HB7 := Lib.hid h07
                  clear hown hb hgr hal3 hkp h07 hrs7 HRS5 HB5 HOK5 HFF r5
                  go_wp2_with fail
                  go_roundw
                  case rel => exact ⟨k + 1, a7, d7, H7, by omega, by go_num, by rw [HSL.out], by rw [HSL.out]; exact HRS7.out, HB7.out⟩
                  case measure => simp [intOf]; omega
                · have hsl := HSL.out
                  rw [if_pos hkb] at hsl
                  have HSL := Lib.hid hsl
                  clear hsl hkb
                  have HFF : Hid (({ sF 2 F with hA := F.hA, hc := F.hc } : Fld) = F) := Lib.hid rfl
                  have HOK5 : Hid (FldOk w4 F ∧ (HT w4 F ∨ FldOk w F)) := Lib.hid ⟨HOK4.out, .inr HK0.out⟩
                  have HB5 := Lib.hid HB4.out
                  have HRS5 := Lib.hid HRS4.out
                  clear HRS4 HOK4 HB4 hq
                  go_upto_region 9 with fail
                  have r5 := r4
                  have n5 := rowAt_lt r5
                  clear r4 c2 c586 f586 n4
                  go_wp2_with (at_builtin; refine wl_append_rows2 Try.underlying22 info_field fld0.size (by decide) rfl _ _ rfl rfl (own_alloc HRS5.out.own _) _ 1 1 F.cells.toList rfl ?c1 (fun h => by cases h) ?c2 ?c3 ?c4 ?c5 ?c6 ?_)
                  case c1 => rw [Array.length_toList, F.size]
                  case c2 => intro j u hu; exact ⟨w4.heap.size, 0, rfl, by rw [Nat.zero_add, cell_of_rowAt (rowAt_alloc_at _ _ _ _ rfl), ← hu]; simp⟩
                  case c3 => exact fun u hu => (Array.all_eq_true_iff_forall_mem.1 F.one) u (by simpa using hu)
                  case c4 => omega
                  case c5 => omega
                  case c6 => have := HB5.out.size; simp; omega
                  intro v' w7 hown hb hgr
                  have hal3 : Below w4.heap.size w4 (w4.alloc (.cells F.cells 50)) := (Below.refl _ _).alloc (Nat.le_refl _) _
                  have hkp := (KeepH.below hal3).trans (KeepH.grown (own_alloc HRS5.out.own _) hgr (by decide))
                  have h07 := (bthen HB5.out hal3).trans hb
                  obtain ⟨a7, d7, H7, rfl, hrs7⟩ := HRS5.out.push HFF.out hown hkp h07 (fld_step hkp h07 HOK5.out)
                  have HRS7 := Lib.hid hrs7
                  have HB7 := Lib.hid h07
                  clear hown hb hgr hal3 hkp h07 hrs7 HRS5 HB5 HOK5 HFF r5
                  go_wp2_with fail
                  go_roundw
                  case rel => exact ⟨k + 1, a7, d7, H7, by omega, by go_num, by rw [HSL.out], by rw [HSL.out]; exact HRS7.out, HB7.out⟩
                  case measure => simp [intOf]; omega
              · have hkb : keepB v F = false := by unfold keepB isV; rw [hq]; rcases hv with rfl | rfl <;> simp [he]
                have ge : decide (F.epoch = 0) = false := decide_eq_false he
                rcases hv with rfl | rfl
                · have hsl := HSL.out
                  rw [if_neg (by rw [hkb]; decide)] at hsl
                  have HSL := Lib.hid hsl
                  clear hsl hkb hq
                  go_wp2_with fail
                  go_roundw
                  case rel => exact ⟨k + 1, A', c', H, by omega, by go_num, by rw [HSL.out], by rw [HSL.out]; exact HRS4.out, HB4.out⟩
                  case measure => simp [intOf]; omega
                · have hsl := HSL.out
                  rw [if_neg (by rw [hkb]; decide)] at hsl
                  have HSL := Lib.hid hsl
                  clear hsl hkb hq
                  go_wp2_with fail
                  go_roundw
                  case rel => exact ⟨k + 1, A', c', H, by omega, by go_num, by rw [HSL.out], by rw [HSL.out]; exact HRS4.out, HB4.out⟩
                  case measure => simp [intOf]; omega
    · obtain rfl : k = n := by omega
      clear hrs hb
      go_wp2_with fail
      go_ret
      exact ⟨A', c', H, rfl, HRS.out, HB.out⟩

set_option maxHeartbeats 4000000 in
theorem same13_yes (L : Nat → Fld) (H1 H2 : Nat → Option Addr × Nat) (A1 A2 : Option Addr) (n c1 c2 : Nat) (w : World) (h1 : FldsIs w A1 n (reF L H1)) (h2 : FldsIs w A2 n (reF L H2)) (hn : n ≤ 100) :
    Calls Try.prog 18 #[.slice A1 n c1, .slice A2 n c2] w fun e w' => e = .returned (.bool true) ∧ Below w.heap.size w w' := by
  have HF1 := Lib.hid h1
  have HF2 := Lib.hid h2
  clear h1 h2
  go_enter Try.func18, Try.ntmps18
  go_wp2_with fail
  go_loopw [13] (fun i w' => ∃ k : Nat, k ≤ n ∧ i = .int .i64 k ∧ Below w.heap.size w w') (fun i _ => n - (intOf i).toNat)
  case atStart => exact ⟨0, Nat.zero_le _, rfl, Below.refl _ _⟩
  case round =>
    rename World => wr
    obtain ⟨k, hk, rfl, hb⟩ := hrel
    have HBR := Lib.hid hb
    by_cases hlt : k < n
    · obtain ⟨u1, o1, hA1, _, _, q1⟩ := (HF1.out.below hb).at_ hlt
      obtain ⟨u2, o2, hA2, _, _, q2⟩ := (HF2.out.below hb).at_ hlt
      have HS : Hid (∀ x : Later wr.heap.size wr, Calls Try.prog 30 #[.agg (reF L H1 k).cells, .agg (reF L H2 k).cells] x.wd fun e w' => e = .returned (.bool true) ∧ Below x.wd.heap.size x.wd w') := Lib.hid (fun x => fsame_yes (reF L H1 k) (H2 k).1 (H2 k).2 x.wd (((HF1.out.below hb).ok k hlt).below x.below) (((HF2.out.below hb).ok k hlt).below x.below))
      generalize reF L H1 k = F1 at *
      generalize reF L H2 k = F2 at *
      have p1 : ∀ x : Later wr.heap.size wr, loadAgg Try.prog x.wd 50 (.pointer (some ⟨u1, o1 + k * 587, none⟩)) = .ok (.value (.agg F1.cells)) x.wd := fun x => q1 _ x.below
      have p2 : ∀ x : Later wr.heap.size wr, loadAgg Try.prog x.wd 50 (.pointer (some ⟨u2, o2 + k * 587, none⟩)) = .ok (.value (.agg F2.cells)) x.wd := fun x => q2 _ x.below
      rw [hA1, hA2]
      clear hb q1 q2 hA1 hA2
      go_upto_region 6 with fail
      refine region_quiet (by kernel_rfl) (by kernel_rfl) ?_
      repeat (go_big_quiet_step ((go_at_call 30; exact quiet_call (by simp) (HS.out _))))
      refine wpQuiet_nil ?_
      intro w3 hb1
      have HB1 := Lib.hid (bthen HBR.out hb1)
      clear hb1 p1 p2
      go_wp2_with fail
      go_roundw
      case rel => exact ⟨k + 1, by omega, by go_num, HB1.out⟩
      case measure => simp [intOf]; omega
    · clear hb
      go_wp2_with fail
      go_ret
      exact ⟨rfl, HBR.out⟩
end Go.Proofs.Ytmdojegiimhfcaa
