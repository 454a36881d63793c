/-
  Fields of the program: whether they are the same.
-/
import Derived.Test.YtinhaipnmmgplaaGreatZSta
import Derived.Test.YtinhaipnmmgplaaGreatZMSame
import Derived.Test.YtinhaipnmmgplaaGreatZDown
namespace Go.Proofs.YtinhaipnmmgplaaGreat
set_option maxRecDepth 20000
open Go.RowKit
set_option linter.unusedSimpArgs false
set_option linter.unusedVariables false
attribute [local go_sem] rowCells rowAt_drewN get_ints getE_ints set_ints size_ints rowAt_alloc rowAt_drew setRow_alloc setRow_drewN setRow_drew setCell_alloc setCell_drewN splice_upd splice_put splice_all load_vec_cut load_vecs_cut load_rights_cut load_counter store_vec store_rights store_counter eql_vec neq_vec index_vec eql_rights neq_rights eql_counter index_vecs cut_ints sub_zero
attribute [local go_sem ↓] xload_vec xstore_vec xalloc_vec xeql_vec xneq_vec xindex_vec xbuild_vec0 xload_rights xstore_rights xalloc_rights xeql_rights xneq_rights xbuild_rights0 xload_vecs xindex_vecs xload_counter xstore_counter xalloc_counter xbuild_counter0 xeql_counter xbuild_counter3
attribute [local go_sem] rowAt_setRow rowAt_setCell load_vec_cut_later load_rights_later load_counter_later Later.cell Later.frozen build3_ints
attribute [local go_sem ↓] xload_field xstore_field xalloc_field xload_lock
attribute [local go_sem] load_field load_field_later store_field load_counter_cut load_lock_cut load_lock_later Fld.size Fld.get0 Fld.get1 Fld.get2 Fld.get586 Fld.getE0 Fld.getE1 Fld.getE2 Fld.getE586 Fld.cut_cnt Fld.cut_lock Fld.cut_all Fld.splice_all strT_size

attribute [local go_sem ↓] xload_hold xstore_hold xalloc_hold
attribute [local go_sem] load_hold load_hold_later store_hold
attribute [local go_sem ↓] xbuild_lock0 xeql_lock xneq_lock xneq_counter
attribute [local go_sem] eql_lock neq_lock neq_counter

attribute [local go_sem] zero_field
attribute [local go_sem] resC_size resC_all resC_splice resC_set0 resC_set1 Fld.set2 Fld.set586
attribute [local go_sem ↓] xbuildS_field
attribute [local go_sem] buildSF_agg
attribute [local go_sem ↓] xstore_sta xload_sta xalloc_sta xbuild_sta0 xstore_bar xload_bar xalloc_bar xbuild_bar0 xstore_plan xload_plan xalloc_plan xbuild_plan0
attribute [local go_sem] load_sta load_sta_later store_sta load_bar load_bar_later store_bar load_plan load_plan_later store_plan
attribute [local go_sem] Sta.size Sta.bsize Pl.size Sta.cut_all Sta.cut_p Sta.cut_bar Sta.cut_bp Sta.bcut_all Sta.bcut_p Pl.cut_all Sta.splice_all Sta.bsplice_all Pl.splice_all Sta.splice_bar
attribute [local go_sem] Sta.get0 Sta.getE0 Sta.set0 Sta.get1 Sta.getE1 Sta.set1 Sta.get2 Sta.getE2 Sta.set2 Sta.get3 Sta.getE3 Sta.set3 Sta.get4 Sta.getE4 Sta.set4 Sta.get5 Sta.getE5 Sta.set5 Sta.get6 Sta.getE6 Sta.set6 Sta.get7 Sta.getE7 Sta.set7 Sta.get8 Sta.getE8 Sta.set8 Sta.get9 Sta.getE9 Sta.set9 Sta.get10 Sta.getE10 Sta.set10 Sta.get11 Sta.getE11 Sta.set11 Sta.get12 Sta.getE12 Sta.set12 Sta.get13 Sta.getE13 Sta.set13 Sta.get14 Sta.getE14 Sta.set14 Sta.get15 Sta.getE15 Sta.set15 Sta.get16 Sta.getE16 Sta.set16 Sta.get17 Sta.getE17 Sta.set17 Sta.get18 Sta.getE18 Sta.set18 Sta.get19 Sta.getE19 Sta.set19 Sta.get20 Sta.getE20 Sta.set20 Sta.get21 Sta.getE21 Sta.set21 Sta.get22 Sta.getE22 Sta.set22 Sta.get23 Sta.getE23 Sta.set23 Sta.get24 Sta.getE24 Sta.set24
attribute [local go_sem] Sta.bget0 Sta.bgetE0 Sta.bget1 Sta.bgetE1 Sta.bget2 Sta.bgetE2 Sta.bget3 Sta.bgetE3 Sta.bget4 Sta.bgetE4 Sta.bget5 Sta.bgetE5 Sta.bget6 Sta.bgetE6 Sta.bget7 Sta.bgetE7 Sta.bget8 Sta.bgetE8 Sta.bget9 Sta.bgetE9 Sta.bget10 Sta.bgetE10 Sta.bget11 Sta.bgetE11 Sta.bget12 Sta.bgetE12 Sta.bget13 Sta.bgetE13 Pl.get0 Pl.getE0 Pl.get1 Pl.getE1 Pl.get2 Pl.getE2 Pl.get3 Pl.getE3 Pl.get4 Pl.getE4
attribute [local go_sem ↓] xneq_hold
attribute [local go_sem] neq_hold
theorem eqI_rows5_no {n : Nat} {f g : Nat → Int} {k : Nat} (hk : k < n) (h : eqI 5 (sub (5 * k) f) (sub (5 * k) g) = false) : eqI (5 * n) f g = false := by
  cases hq : eqI (5 * n) f g
  · rfl
  · exfalso
    rw [eqI_iff] at hq
    have : eqI 5 (sub (5 * k) f) (sub (5 * k) g) = true := eqI_iff.2 fun i hi => hq (5 * k + i) (by omega)
    rw [h] at this
    cases this
theorem eqI_rows5_yes {n : Nat} {f g : Nat → Int} (h : ∀ k, k < n → eqI 5 (sub (5 * k) f) (sub (5 * k) g) = true) : eqI (5 * n) f g = true := by
  rw [eqI_iff]
  intro i hi
  have h1 := eqI_iff.1 (h (i / 5) (by omega)) (i % 5) (by omega)
  unfold sub at h1
  rwa [show 5 * (i / 5) + i % 5 = i by omega] at h1
set_option maxHeartbeats 4000000 in
theorem hequal_any (A B : Option Addr) (n m c d : Nat) (f g : Nat → Int) (w : World) (h1 : IntsIs w A (5 * n) f) (h2 : IntsIs w B (5 * m) g) (hn : n ≤ 9223372036854775807) (hm : m ≤ 9223372036854775807) :
    Calls Tryz.prog 40 #[.slice A n c, .slice B m d] w fun e w' => e = .returned (.bool (decide (n = m) && eqI (5 * n) f g)) ∧ Below w.heap.size w w' := by
  have H1 := Lib.hid h1
  have H2 := Lib.hid h2
  clear h1 h2
  by_cases hnm : n = m
  · subst hnm
    obtain ⟨R, hR⟩ : ∃ R, eqI (5 * n) f g = R := ⟨_, rfl⟩
    rw [show (decide (n = n) && eqI (5 * n) f g) = R by rw [hR]; simp]
    have HR := Lib.hid hR
    clear hR
    go_enter Tryz.func40, Tryz.ntmps40
    go_wp2_with fail
    go_loopw [13] (fun i w' => ∃ k : Nat, k ≤ n ∧ i = .int .i64 k ∧ (∀ j, j < k → eqI 5 (sub (5 * j) f) (sub (5 * j) g) = true) ∧ Below w.heap.size w w') (fun i _ => n - (intOf i).toNat)
    case atStart => exact ⟨0, Nat.zero_le _, rfl, fun j hj => by omega, Below.refl _ _⟩
    case round =>
      rename World => wr
      obtain ⟨k, hk, rfl, hall, hb⟩ := hrel
      have HBR := Lib.hid hb
      have HA := Lib.hid hall
      by_cases hlt : k < n
      · obtain ⟨u1, o1, rfl, q1⟩ := (H1.out.below hb).load hlt
        obtain ⟨u2, o2, rfl, q2⟩ := (H2.out.below hb).load hlt
        have p1 : ∀ x : Later wr.heap.size wr, loadAgg Tryz.prog x.wd 87 (.pointer (some ⟨u1, o1 + k * 5, none⟩)) = .ok (.value (.agg (ints 5 (sub (5 * k) f)))) x.wd := fun x => q1 _ x.below
        have p2 : ∀ x : Later wr.heap.size wr, loadAgg Tryz.prog x.wd 87 (.pointer (some ⟨u2, o2 + k * 5, none⟩)) = .ok (.value (.agg (ints 5 (sub (5 * k) g)))) x.wd := fun x => q2 _ x.below
        clear hb hall q1 q2
        obtain ⟨b, hbq⟩ : ∃ b, eqI 5 (sub (5 * k) f) (sub (5 * k) g) = b := ⟨_, rfl⟩
        cases b
        · have HN := Lib.hid (eqI_rows5_no hlt hbq)
          go_upto_region 6 with fail
          refine region_quiet (by kernel_rfl) (by kernel_rfl) ?_
          repeat (go_big_quiet_step (fail))
          refine wpQuiet_nil ?_
          intro w1 hb1
          have HB1 := Lib.hid (bthen HBR.out hb1)
          clear hb1 p1 p2
          go_wp2_with fail
          go_ret
          exact ⟨by rw [← HR.out, HN.out]; rfl, HB1.out⟩
        · have HC := Lib.hid hbq
          go_upto_region 6 with fail
          refine region_quiet (by kernel_rfl) (by kernel_rfl) ?_
          repeat (go_big_quiet_step (fail))
          refine wpQuiet_nil ?_
          intro w1 hb1
          have HB1 := Lib.hid (bthen HBR.out hb1)
          clear hb1 p1 p2 hbq
          go_wp2_with fail
          go_roundw
          case rel =>
            refine ⟨k + 1, by omega, by go_num, fun j hj => ?_, HB1.out⟩
            by_cases hjk : j = k
            · rw [hjk]; exact HC.out
            · exact HA.out j (by omega)
          case measure => simp [intOf]; omega
      · obtain rfl : k = n := by omega
        clear hb hall
        go_wp2_with fail
        go_ret
        exact ⟨by rw [← HR.out, eqI_rows5_yes HA.out]; rfl, HBR.out⟩
  · have g1 : ((n : Int) != (m : Int)) = true := by have : (n : Int) ≠ m := by omega
                                                    simpa using this
    have g2 : (n != m) = true := by simpa using hnm
    rw [show (decide (n = m) && eqI (5 * n) f g) = false by rw [decide_eq_false hnm]; rfl]
    go_enter Tryz.func40, Tryz.ntmps40
    go_wp2_with fail
    go_ret
    exact ⟨rfl, Below.refl _ _⟩
def hsB (F G : Fld) : Bool := decide (F.hn = G.hn) && eqI (5 * F.hn) F.hs G.hs
def sameF (F G : Fld) : Bool := ((strT F.name).toList == (strT G.name).toList) && (F.kind == G.kind) && (F.epoch == G.epoch) && eqI 579 F.cnt G.cnt && eqI 4 F.lock G.lock && hsB F G
theorem hequal_at {F G : Fld} {b : Bool} (e : hsB F G = b) {w : World} (h1 : FldOk w F) (h2 : FldOk w G) : Calls Tryz.prog 40 #[.slice F.hA F.hn F.hc, .slice G.hA G.hn G.hc] w fun e w' => e = .returned (.bool b) ∧ Below w.heap.size w w' := by
  rw [← e]
  exact hequal_any _ _ _ _ _ _ _ _ w h1.holds h2.holds (Nat.le_trans h1.le h1.big.2) (Nat.le_trans h2.le h2.big.2)
attribute [local go_sem ↓] xeql_lock xneq_lock xneq_counter
attribute [local go_sem] eql_lock neq_lock neq_counter
set_option maxHeartbeats 2000000 in
theorem pfsame_any (F G : Fld) (w : World) (h1 : FldOk w F) (h2 : FldOk w G) : Calls Tryz.prog 20 #[.agg F.cells, .agg G.cells] w fun e w' => e = .returned (.bool (sameF F G)) ∧ Below w.heap.size w w' := by
  have HF := Lib.hid (h1.below (below_allocS ((Below.refl _ _).alloc (Nat.le_refl _) (.cells F.cells 58)) (.cells G.cells 58)))
  have HG := Lib.hid (h2.below (below_allocS ((Below.refl _ _).alloc (Nat.le_refl _) (.cells F.cells 58)) (.cells G.cells 58)))
  clear h1 h2
  obtain ⟨R, hR⟩ : ∃ R, (sameF F G) = R := ⟨_, rfl⟩
  obtain ⟨b0, e0⟩ : ∃ b, ((strT F.name).toList == (strT G.name).toList) = b := ⟨_, rfl⟩
  obtain ⟨b1, e1⟩ : ∃ b, (F.kind == G.kind) = b := ⟨_, rfl⟩
  obtain ⟨b2, e2⟩ : ∃ b, (F.epoch == G.epoch) = b := ⟨_, rfl⟩
  obtain ⟨b3, e3⟩ : ∃ b, eqI 579 F.cnt G.cnt = b := ⟨_, rfl⟩
  obtain ⟨b4, e4⟩ : ∃ b, eqI 4 F.lock G.lock = b := ⟨_, rfl⟩
  obtain ⟨b5, e5⟩ : ∃ b, hsB F G = b := ⟨_, rfl⟩
  have hM : R = (b0 && b1 && b2 && b3 && b4 && b5) := by rw [← hR, ← e0, ← e1, ← e2, ← e3, ← e4, ← e5]; rfl
  rw [hR]
  clear hR
  have HH := Lib.hid e5
  clear e5
  cases b0
  · obtain rfl : R = false := by simpa using hM
    clear hM
    go_enter Tryz.func20, Tryz.ntmps20
    go_upto_region 1 with fail
    refine region_seq ?_
    repeat (go_big_quiet_step ((first | (go_at_call 40; exact quiet_call (by simp) (hequal_at HH.out (HF.out.below (Later.below _)) (HG.out.below (Later.below _)))))))
    refine wpQuiet_nil ?_
    intro w1 hb1
    have HB := Lib.hid (bthen (below_allocS (below_allocS (Below.refl _ _) _) _) hb1)
    clear hb1
    go_wp2
    go_ret
    exact ⟨by first | rfl | simp [*], HB.out⟩
  · cases b1
    · obtain rfl : R = false := by simpa using hM
      clear hM
      go_enter Tryz.func20, Tryz.ntmps20
      go_upto_region 1 with fail
      refine region_seq ?_
      repeat (go_big_quiet_step ((first | (go_at_call 40; exact quiet_call (by simp) (hequal_at HH.out (HF.out.below (Later.below _)) (HG.out.below (Later.below _)))))))
      refine wpQuiet_nil ?_
      intro w1 hb1
      have HB := Lib.hid (bthen (below_allocS (below_allocS (Below.refl _ _) _) _) hb1)
      clear hb1
      go_wp2
      go_ret
      exact ⟨by first | rfl | simp [*], HB.out⟩
    · cases b2
      · obtain rfl : R = false := by simpa using hM
        clear hM
        go_enter Tryz.func20, Tryz.ntmps20
        go_upto_region 1 with fail
        refine region_seq ?_
        repeat (go_big_quiet_step ((first | (go_at_call 40; exact quiet_call (by simp) (hequal_at HH.out (HF.out.below (Later.below _)) (HG.out.below (Later.below _)))))))
        refine wpQuiet_nil ?_
        intro w1 hb1
        have HB := Lib.hid (bthen (below_allocS (below_allocS (Below.refl _ _) _) _) hb1)
        clear hb1
        go_wp2
        go_ret
        exact ⟨by first | rfl | simp [*], HB.out⟩
      · cases b3
        · obtain rfl : R = false := by simpa using hM
          clear hM
          go_enter Tryz.func20, Tryz.ntmps20
          go_upto_region 1 with fail
          refine region_seq ?_
          repeat (go_big_quiet_step ((first | (go_at_call 40; exact quiet_call (by simp) (hequal_at HH.out (HF.out.below (Later.below _)) (HG.out.below (Later.below _)))))))
          refine wpQuiet_nil ?_
          intro w1 hb1
          have HB := Lib.hid (bthen (below_allocS (below_allocS (Below.refl _ _) _) _) hb1)
          clear hb1
          go_wp2
          go_ret
          exact ⟨by first | rfl | simp [*], HB.out⟩
        · cases b4
          · obtain rfl : R = false := by simpa using hM
            clear hM
            go_enter Tryz.func20, Tryz.ntmps20
            go_upto_region 1 with fail
            refine region_seq ?_
            repeat (go_big_quiet_step ((first | (go_at_call 40; exact quiet_call (by simp) (hequal_at HH.out (HF.out.below (Later.below _)) (HG.out.below (Later.below _)))))))
            refine wpQuiet_nil ?_
            intro w1 hb1
            have HB := Lib.hid (bthen (below_allocS (below_allocS (Below.refl _ _) _) _) hb1)
            clear hb1
            go_wp2
            go_ret
            exact ⟨by first | rfl | simp [*], HB.out⟩
          · obtain rfl : R = b5 := by simpa using hM
            clear hM
            go_enter Tryz.func20, Tryz.ntmps20
            go_upto_region 1 with fail
            refine region_seq ?_
            repeat (go_big_quiet_step ((first | (go_at_call 40; exact quiet_call (by simp) (hequal_at HH.out (HF.out.below (Later.below _)) (HG.out.below (Later.below _)))))))
            refine wpQuiet_nil ?_
            intro w1 hb1
            have HB := Lib.hid (bthen (below_allocS (below_allocS (Below.refl _ _) _) _) hb1)
            clear hb1
            go_wp2
            go_ret
            exact ⟨by first | rfl | simp [*], HB.out⟩
theorem pfsame_at {F G : Fld} {b : Bool} (e : sameF F G = b) {w : World} (h1 : FldOk w F) (h2 : FldOk w G) : Calls Tryz.prog 20 #[.agg F.cells, .agg G.cells] w fun e w' => e = .returned (.bool b) ∧ Below w.heap.size w w' := by rw [← e]; exact pfsame_any F G w h1 h2
/-- Slices of fields that are the same. -/
def sameL (F G : FS) : Bool := decide (F.n = G.n) && (List.range F.n).all fun i => sameF (F.l i) (G.l i)
theorem allSame_no {n : Nat} {L M : Nat → Fld} {k : Nat} (hk : k < n) (h : sameF (L k) (M k) = false) : ((List.range n).all fun i => sameF (L i) (M i)) = false := by
  rw [List.all_eq_false]
  exact ⟨k, List.mem_range.2 hk, by rw [h]; decide⟩
theorem allSame_yes {n : Nat} {L M : Nat → Fld} (h : ∀ k, k < n → sameF (L k) (M k) = true) : ((List.range n).all fun i => sameF (L i) (M i)) = true := by
  rw [List.all_eq_true]
  exact fun k hk => h k (List.mem_range.1 hk)
set_option maxHeartbeats 4000000 in
theorem eqfunc_any (F G : FS) (w : World) (h1 : FSOk w F) (h2 : FSOk w G) :
    Calls Tryz.prog 19 #[.slice F.A F.n F.c, .slice G.A G.n G.c, .func (.func 20) #[] #[]] w fun e w' => e = .returned (.bool (sameL F G)) ∧ Below w.heap.size w w' := by
  have hb1 := Nat.le_trans h1.le h1.big
  have hb2 := Nat.le_trans h2.le h2.big
  have H1 := Lib.hid h1.is
  have H2 := Lib.hid h2.is
  obtain ⟨A, n, c, L⟩ := F
  obtain ⟨B, m, d, M⟩ := G
  dsimp only at *
  clear h1 h2
  by_cases hnm : n = m
  · subst hnm
    obtain ⟨R, hR⟩ : ∃ R, ((List.range n).all fun i => sameF (L i) (M i)) = R := ⟨_, rfl⟩
    rw [show sameL ⟨A, n, c, L⟩ ⟨B, n, d, M⟩ = R by unfold sameL; dsimp only; rw [hR]; simp]
    have HR := Lib.hid hR
    clear hR
    go_enter Tryz.func19, Tryz.ntmps19
    go_wp2_with fail
    go_loopw [17] (fun i w' => ∃ k : Nat, k ≤ n ∧ i = .int .i64 k ∧ (∀ j, j < k → sameF (L j) (M j) = true) ∧ Below w.heap.size w w') (fun i _ => n - (intOf i).toNat)
    case atStart => exact ⟨0, Nat.zero_le _, rfl, fun j hj => by omega, Below.refl _ _⟩
    case round =>
      rename World => wr
      obtain ⟨k, hk, rfl, hall, hb⟩ := hrel
      have HBR := Lib.hid hb
      have HA := Lib.hid hall
      by_cases hlt : k < n
      · obtain ⟨u1, o1, hA1, hl1, _, q1⟩ := (H1.out.below hb).at_ hlt
        obtain ⟨u2, o2, hA2, hl2, _, q2⟩ := (H2.out.below hb).at_ hlt
        have K1 := Lib.hid ((H1.out.below hb).ok k hlt)
        have K2 := Lib.hid ((H2.out.below hb).ok k hlt)
        have p1 := q1 wr (Below.refl _ _)
        have p2 := q2 (wr.alloc (.cells (L k).cells 58)) ((Below.refl _ _).alloc (Nat.le_refl _) _)
        obtain ⟨b, hbq⟩ : ∃ b, sameF (L k) (M k) = b := ⟨_, rfl⟩
        have HBQ := Lib.hid hbq
        rw [hA1, hA2]
        have HQ2 := Lib.hid hbq
        obtain ⟨X1, hX1⟩ : ∃ X1, L k = X1 := ⟨_, rfl⟩
        obtain ⟨X2, hX2⟩ : ∃ X2, M k = X2 := ⟨_, rfl⟩
        rw [hX1] at K1 p1 p2 HBQ
        rw [hX2] at K2 p2 HBQ
        clear hb hall q1 q2 hA1 hA2 hbq hX1 hX2
        have hal : ∀ o1 o2, Below wr.heap.size wr ((wr.alloc o1).alloc o2) := fun o1 o2 => below_allocS ((Below.refl _ _).alloc (Nat.le_refl _) _) _
        have HAL := Lib.hid hal
        clear hal
        go_wp2_with fail
        refine (pfsame_at HBQ.out (K1.out.below (HAL.out _ _)) (K2.out.below (HAL.out _ _))).mono ?_
        rintro e w4 ⟨rfl, hb⟩
        have HB4 := Lib.hid (bthen HBR.out (bthen (HAL.out _ _) hb))
        clear hb p1 p2 K1 K2 HBQ
        cases b
        · have HN := Lib.hid (allSame_no hlt HQ2.out)
          go_wp2_with fail
          go_ret
          exact ⟨by rw [← HR.out, HN.out]; rfl, HB4.out⟩
        · go_wp2_with fail
          go_roundw
          case rel =>
            refine ⟨k + 1, by omega, by go_num, fun j hj => ?_, HB4.out⟩
            by_cases hjk : j = k
            · rw [hjk]; exact HQ2.out
            · exact HA.out j (by omega)
          case measure => simp [intOf]; omega
      · obtain rfl : k = n := by omega
        clear hb hall
        go_wp2_with fail
        go_ret
        exact ⟨by rw [← HR.out, allSame_yes HA.out]; rfl, HBR.out⟩
  · have g1 : ((n : Int) != (m : Int)) = true := by have : (n : Int) ≠ m := by omega
                                                    simpa using this
    have g2 : (n != m) = true := by simpa using hnm
    rw [show sameL ⟨A, n, c, L⟩ ⟨B, m, d, M⟩ = false by unfold sameL; dsimp only; rw [decide_eq_false hnm]; rfl]
    go_enter Tryz.func19, Tryz.ntmps19
    go_wp2_with fail
    go_ret
    exact ⟨rfl, Below.refl _ _⟩
set_option maxHeartbeats 1000000 in
theorem same1_any (F G : FS) (w : World) (h1 : FSOk w F) (h2 : FSOk w G) : Calls Tryz.prog 18 #[.slice F.A F.n F.c, .slice G.A G.n G.c] w fun e w' => e = .returned (.bool (sameL F G)) ∧ Below w.heap.size w w' := by
  obtain ⟨R, hR⟩ : ∃ R, sameL F G = R := ⟨_, rfl⟩
  have HC := Lib.hid (hR ▸ eqfunc_any F G w h1 h2 : Calls Tryz.prog 19 #[.slice F.A F.n F.c, .slice G.A G.n G.c, .func (.func 20) #[] #[]] w fun e w' => e = .returned (.bool R) ∧ Below w.heap.size w w')
  rw [hR]
  clear hR h1 h2
  go_enter Tryz.func18, Tryz.ntmps18
  go_wp2_with fail
  refine HC.out.mono ?_
  rintro e w1 ⟨rfl, hb⟩
  have HB := Lib.hid hb
  clear hb
  go_wp2_with fail
  go_ret
  exact ⟨rfl, HB.out⟩
theorem same1_at {F G : FS} {b : Bool} (e : sameL F G = b) {w : World} (h1 : FSOk w F) (h2 : FSOk w G) : Calls Tryz.prog 18 #[.slice F.A F.n F.c, .slice G.A G.n G.c] w fun e w' => e = .returned (.bool b) ∧ Below w.heap.size w w' := by rw [← e]; exact same1_any F G w h1 h2
end Go.Proofs.YtinhaipnmmgplaaGreat
