/-
  Layer 17 (state): the walk of StateMakes.
-/
import Derived.Test.YtinhaipnmmgplaaGreatZStMakes
import Derived.Test.YtinhaipnmmgplaaGreatZField6
namespace Go.Proofs.YtinhaipnmmgplaaGreat
set_option maxRecDepth 20000
open Go.RowKit
set_option linter.unusedSimpArgs false
set_option linter.unusedVariables false
attribute [local go_sem] rowCells rowAt_drewN get_ints getE_ints set_ints size_ints rowAt_alloc rowAt_drew setRow_alloc setRow_drewN setRow_drew setCell_alloc setCell_drewN splice_upd splice_put splice_all load_vec_cut load_vecs_cut load_rights_cut load_counter store_vec store_rights store_counter eql_vec neq_vec index_vec eql_rights neq_rights eql_counter index_vecs cut_ints sub_zero
attribute [local go_sem ↓] xload_vec xstore_vec xalloc_vec xeql_vec xneq_vec xindex_vec xbuild_vec0 xload_rights xstore_rights xalloc_rights xeql_rights xneq_rights xbuild_rights0 xload_vecs xindex_vecs xload_counter xstore_counter xalloc_counter xbuild_counter0 xeql_counter xbuild_counter3
attribute [local go_sem] rowAt_setRow rowAt_setCell load_vec_cut_later load_rights_later load_counter_later Later.cell Later.frozen build3_ints
attribute [local go_sem ↓] xload_field xstore_field xalloc_field xload_lock
attribute [local go_sem] load_field load_field_later store_field load_counter_cut load_lock_cut load_lock_later Fld.size Fld.get0 Fld.get1 Fld.get2 Fld.get586 Fld.getE0 Fld.getE1 Fld.getE2 Fld.getE586 Fld.cut_cnt Fld.cut_lock Fld.cut_all Fld.splice_all strT_size

attribute [local go_sem ↓] xload_hold xstore_hold xalloc_hold
attribute [local go_sem] load_hold load_hold_later store_hold
attribute [local go_sem ↓] xbuild_lock0 xeql_lock xneq_lock xneq_counter
attribute [local go_sem] eql_lock neq_lock neq_counter

attribute [local go_sem] zero_field
attribute [local go_sem] resC_size resC_all resC_splice resC_set0 resC_set1 Fld.set2 Fld.set586
attribute [local go_sem ↓] xbuildS_field
attribute [local go_sem] buildSF_agg
attribute [local go_sem ↓] xstore_sta xload_sta xalloc_sta xbuild_sta0 xstore_bar xload_bar xalloc_bar xbuild_bar0 xstore_plan xload_plan xalloc_plan xbuild_plan0
attribute [local go_sem] load_sta load_sta_later store_sta load_bar load_bar_later store_bar load_plan load_plan_later store_plan
attribute [local go_sem] Sta.size Sta.bsize Pl.size Sta.cut_all Sta.cut_p Sta.cut_bar Sta.cut_bp Sta.bcut_all Sta.bcut_p Pl.cut_all Sta.splice_all Sta.bsplice_all Pl.splice_all Sta.splice_bar
attribute [local go_sem] Sta.get0 Sta.getE0 Sta.set0 Sta.get1 Sta.getE1 Sta.set1 Sta.get2 Sta.getE2 Sta.set2 Sta.get3 Sta.getE3 Sta.set3 Sta.get4 Sta.getE4 Sta.set4 Sta.get5 Sta.getE5 Sta.set5 Sta.get6 Sta.getE6 Sta.set6 Sta.get7 Sta.getE7 Sta.set7 Sta.get8 Sta.getE8 Sta.set8 Sta.get9 Sta.getE9 Sta.set9 Sta.get10 Sta.getE10 Sta.set10 Sta.get11 Sta.getE11 Sta.set11 Sta.get12 Sta.getE12 Sta.set12 Sta.get13 Sta.getE13 Sta.set13 Sta.get14 Sta.getE14 Sta.set14 Sta.get15 Sta.getE15 Sta.set15 Sta.get16 Sta.getE16 Sta.set16 Sta.get17 Sta.getE17 Sta.set17 Sta.get18 Sta.getE18 Sta.set18 Sta.get19 Sta.getE19 Sta.set19 Sta.get20 Sta.getE20 Sta.set20 Sta.get21 Sta.getE21 Sta.set21 Sta.get22 Sta.getE22 Sta.set22 Sta.get23 Sta.getE23 Sta.set23 Sta.get24 Sta.getE24 Sta.set24
attribute [local go_sem] Sta.bget0 Sta.bgetE0 Sta.bget1 Sta.bgetE1 Sta.bget2 Sta.bgetE2 Sta.bget3 Sta.bgetE3 Sta.bget4 Sta.bgetE4 Sta.bget5 Sta.bgetE5 Sta.bget6 Sta.bgetE6 Sta.bget7 Sta.bgetE7 Sta.bget8 Sta.bgetE8 Sta.bget9 Sta.bgetE9 Sta.bget10 Sta.bgetE10 Sta.bget11 Sta.bgetE11 Sta.bget12 Sta.bgetE12 Sta.bget13 Sta.bgetE13 Pl.get0 Pl.getE0 Pl.get1 Pl.getE1 Pl.get2 Pl.getE2 Pl.get3 Pl.getE3 Pl.get4 Pl.getE4
attribute [local go_sem ↓] xbuild_bar1 xbuild_sta3
attribute [local go_sem] buildB1_bar

theorem newSta_zero {self n : Int} {F : FS} (h : ¬ self = 0) : ({ sta0 with self := self, nn := n, f := F } : Sta) = wantSta self n F := by unfold wantSta; rw [if_neg h]; rfl
theorem rfldsS_at {A : Option Addr} {c n : Nat} {L : Nat → Fld} {b : Bool} (e : fldsB n L = b) {w : World} (h : FldsIs w A n L) (hn : n ≤ 9223372036854775807) : Calls Tryz.prog 7 #[.slice A n c] w fun e w' => e = .returned (.bool b) ∧ Below w.heap.size w w' := by rw [← e]; exact rplanFields_any A c n L w h hn
set_option maxHeartbeats 8000000 in
theorem stateMakes_walk (self : Int) (hself : -9223372036854775808 ≤ self ∧ self ≤ 9223372036854775807) (n : Int) (hn : -9223372036854775808 ≤ n ∧ n ≤ 9223372036854775807) (A : Option Addr) (m c : Nat) (L : Nat → Fld) (hmc : m ≤ c) (hc : c ≤ 9223372036854775807) (hA : A = none → c = 0) (w : World) (h : FldsIs w A m L) :
    Calls Tryz.prog 3 #[.int .i64 self, .int .i64 n, .slice A m c] w fun e w' => e = .returned (.bool true) ∧ Below w.heap.size w w' := by
  obtain ⟨fb, hfb⟩ : ∃ b, few13B m L [] [] = b := ⟨_, rfl⟩
  have HS : Hid (FSOk w ⟨A, m, c, L⟩) := Lib.hid ⟨h, hmc, hA, hc⟩
  have HF : Hid (∀ w' : World, FSOk w' ⟨A, m, c, L⟩ → Calls Tryz.prog 4 #[.slice A m c, .agg pl0.cells] w' fun e w2 => e = .returned (.bool fb) ∧ Below w'.heap.size w' w2) := Lib.hid fun w' o => few13_at (F := ⟨A, m, c, L⟩) (p := pl0) hfb o
  clear h hmc hc hA hfb hself hn
  cases fb
  · go_enter Tryz.func3, Tryz.ntmps3
    go_wp2_with fail
    refine (HF.out _ HS.out).mono ?_
    rintro e w1 ⟨rfl, hb⟩
    have HB1 := Lib.hid hb
    clear hb HF
    go_wp2_with fail
    refine (awake17 _).mono ?_
    rintro e w2 ⟨rfl, hb⟩
    have HB2 := Lib.hid (bthen HB1.out hb)
    clear hb
    go_wp2
    go_ret
    exact ⟨rfl, HB2.out⟩
  · by_cases hbad : n < 2 ∨ 16 < n ∨ self < 0 ∨ n ≤ self ∨ fldsB m L = false
    · have HBAD := Lib.hid hbad
      by_cases h0 : n < 2
      · have g0 : decide (n < 2) = true := decide_eq_true h0
        clear hbad h0
        go_enter Tryz.func3, Tryz.ntmps3
        go_wp2_with fail
        refine (HF.out _ HS.out).mono ?_
        rintro e w1 ⟨rfl, hb⟩
        have HB1 := Lib.hid hb
        clear hb HF
        go_wp2_with fail
        refine (snew_no self n ⟨A, m, c, L⟩ w1 (HS.out.below HB1.out) HBAD.out).mono ?_
        rintro e w2 ⟨rfl, hb⟩
        have HB2 := Lib.hid (bthen HB1.out hb)
        clear hb HB1 HBAD
        go_wp2_with fail
        refine (ssame_at (sameSB_refl sta0) (StaOk.zero _) (StaOk.zero _)).mono ?_
        rintro e w3 ⟨rfl, hb⟩
        have HB3 := Lib.hid (bthen (below_allocS HB2.out _) hb)
        clear hb
        go_wp2_with fail
        refine (awake17 _).mono ?_
        rintro e w4 ⟨rfl, hb⟩
        have HB4 := Lib.hid (bthen HB3.out hb)
        clear hb
        go_wp2
        go_ret
        exact ⟨rfl, HB4.out⟩
      by_cases h1 : 16 < n
      · have g0 : decide (n < 2) = false := decide_eq_false h0
        have g1 : decide (16 < n) = true := decide_eq_true h1
        clear hbad h0 h1
        go_enter Tryz.func3, Tryz.ntmps3
        go_wp2_with fail
        refine (HF.out _ HS.out).mono ?_
        rintro e w1 ⟨rfl, hb⟩
        have HB1 := Lib.hid hb
        clear hb HF
        go_wp2_with fail
        refine (snew_no self n ⟨A, m, c, L⟩ w1 (HS.out.below HB1.out) HBAD.out).mono ?_
        rintro e w2 ⟨rfl, hb⟩
        have HB2 := Lib.hid (bthen HB1.out hb)
        clear hb HB1 HBAD
        go_wp2_with fail
        refine (ssame_at (sameSB_refl sta0) (StaOk.zero _) (StaOk.zero _)).mono ?_
        rintro e w3 ⟨rfl, hb⟩
        have HB3 := Lib.hid (bthen (below_allocS HB2.out _) hb)
        clear hb
        go_wp2_with fail
        refine (awake17 _).mono ?_
        rintro e w4 ⟨rfl, hb⟩
        have HB4 := Lib.hid (bthen HB3.out hb)
        clear hb
        go_wp2
        go_ret
        exact ⟨rfl, HB4.out⟩
      by_cases h2 : self < 0
      · have g0 : decide (n < 2) = false := decide_eq_false h0
        have g1 : decide (16 < n) = false := decide_eq_false h1
        have g2 : decide (self < 0) = true := decide_eq_true h2
        clear hbad h0 h1 h2
        go_enter Tryz.func3, Tryz.ntmps3
        go_wp2_with fail
        refine (HF.out _ HS.out).mono ?_
        rintro e w1 ⟨rfl, hb⟩
        have HB1 := Lib.hid hb
        clear hb HF
        go_wp2_with fail
        refine (snew_no self n ⟨A, m, c, L⟩ w1 (HS.out.below HB1.out) HBAD.out).mono ?_
        rintro e w2 ⟨rfl, hb⟩
        have HB2 := Lib.hid (bthen HB1.out hb)
        clear hb HB1 HBAD
        go_wp2_with fail
        refine (ssame_at (sameSB_refl sta0) (StaOk.zero _) (StaOk.zero _)).mono ?_
        rintro e w3 ⟨rfl, hb⟩
        have HB3 := Lib.hid (bthen (below_allocS HB2.out _) hb)
        clear hb
        go_wp2_with fail
        refine (awake17 _).mono ?_
        rintro e w4 ⟨rfl, hb⟩
        have HB4 := Lib.hid (bthen HB3.out hb)
        clear hb
        go_wp2
        go_ret
        exact ⟨rfl, HB4.out⟩
      by_cases h3 : n ≤ self
      · have g0 : decide (n < 2) = false := decide_eq_false h0
        have g1 : decide (16 < n) = false := decide_eq_false h1
        have g2 : decide (self < 0) = false := decide_eq_false h2
        have g3 : decide (n ≤ self) = true := decide_eq_true h3
        clear hbad h0 h1 h2 h3
        go_enter Tryz.func3, Tryz.ntmps3
        go_wp2_with fail
        refine (HF.out _ HS.out).mono ?_
        rintro e w1 ⟨rfl, hb⟩
        have HB1 := Lib.hid hb
        clear hb HF
        go_wp2_with fail
        refine (snew_no self n ⟨A, m, c, L⟩ w1 (HS.out.below HB1.out) HBAD.out).mono ?_
        rintro e w2 ⟨rfl, hb⟩
        have HB2 := Lib.hid (bthen HB1.out hb)
        clear hb HB1 HBAD
        go_wp2_with fail
        refine (ssame_at (sameSB_refl sta0) (StaOk.zero _) (StaOk.zero _)).mono ?_
        rintro e w3 ⟨rfl, hb⟩
        have HB3 := Lib.hid (bthen (below_allocS HB2.out _) hb)
        clear hb
        go_wp2_with fail
        refine (awake17 _).mono ?_
        rintro e w4 ⟨rfl, hb⟩
        have HB4 := Lib.hid (bthen HB3.out hb)
        clear hb
        go_wp2
        go_ret
        exact ⟨rfl, HB4.out⟩
      · have g0 : decide (n < 2) = false := decide_eq_false h0
        have g1 : decide (16 < n) = false := decide_eq_false h1
        have g2 : decide (self < 0) = false := decide_eq_false h2
        have g3 : decide (n ≤ self) = false := decide_eq_false h3
        have H5 : Hid (fldsB m L = false) := Lib.hid (by rcases hbad with h | h | h | h | h; exact absurd h h0; exact absurd h h1; exact absurd h h2; exact absurd h h3; exact h)
        clear hbad h0 h1 h2 h3
        go_enter Tryz.func3, Tryz.ntmps3
        go_wp2_with fail
        refine (HF.out _ HS.out).mono ?_
        rintro e w1 ⟨rfl, hb⟩
        have HB1 := Lib.hid hb
        clear hb HF
        go_wp2_with fail
        refine (snew_no self n ⟨A, m, c, L⟩ w1 (HS.out.below HB1.out) HBAD.out).mono ?_
        rintro e w2 ⟨rfl, hb⟩
        have HB2 := Lib.hid (bthen HB1.out hb)
        clear hb HB1 HBAD
        go_wp2_with fail
        refine (rfldsS_at H5.out (HS.out.is.below (below_allocS HB2.out _)) (Nat.le_trans HS.out.le HS.out.big)).mono ?_
        rintro e w5 ⟨rfl, hb⟩
        have r5 := rowKeep hb (rowAt_alloc_at w2 sta0.cells 30 _ rfl)
        have HB2' := Lib.hid (bthen (below_allocS HB2.out _) hb)
        clear hb HB2
        have HB2 := HB2'
        clear HB2'
        go_wp2_with fail
        refine (ssame_at (sameSB_refl sta0) (StaOk.zero _) (StaOk.zero _)).mono ?_
        rintro e w3 ⟨rfl, hb⟩
        have HB3 := Lib.hid (bthen HB2.out hb)
        clear hb
        go_wp2_with fail
        refine (awake17 _).mono ?_
        rintro e w4 ⟨rfl, hb⟩
        have HB4 := Lib.hid (bthen HB3.out hb)
        clear hb
        go_wp2
        go_ret
        exact ⟨rfl, HB4.out⟩
    · have h1 : ¬ n < 2 := fun e => hbad (.inl e)
      have h2 : ¬ 16 < n := fun e => hbad (.inr (.inl e))
      have h3 : ¬ self < 0 := fun e => hbad (.inr (.inr (.inl e)))
      have h4 : ¬ n ≤ self := fun e => hbad (.inr (.inr (.inr (.inl e))))
      have h5 : fldsB m L = true := by
        cases h : fldsB m L
        · exact absurd (.inr (.inr (.inr (.inr h)))) hbad
        · rfl
      have HNEW := Lib.hid (fun (w' : World) (o : FSOk w' ⟨A, m, c, L⟩) => snew_ok self n ⟨A, m, c, L⟩ w' o h1 h2 h3 h4 h5)
      have HRT := Lib.hid (fun A' c' H => newSta_right (A := A') (c := c') (H := H) (F := ⟨A, m, c, L⟩) h1 h2 h3 h4 h5)
      have H5 := Lib.hid h5
      have g1 : decide (n < 2) = false := decide_eq_false h1
      have g2 : decide (16 < n) = false := decide_eq_false h2
      have g3 : decide (self < 0) = false := decide_eq_false h3
      have g4 : decide (n ≤ self) = false := decide_eq_false h4
      clear hbad h1 h2 h3 h4 h5
      go_enter Tryz.func3, Tryz.ntmps3
      go_wp2_with fail
      refine (HF.out _ HS.out).mono ?_
      rintro e w1 ⟨rfl, hb⟩
      have HB1 := Lib.hid hb
      clear hb HF
      go_wp2_with fail
      refine (HNEW.out _ (HS.out.below HB1.out)).mono ?_
      rintro e w2 ⟨A', c', H, rfl, hown, hb⟩
      have HB2 := Lib.hid (bthen HB1.out hb)
      have HO2 := Lib.hid hown
      have HR := Lib.hid (HRT.out A' c' H)
      have HSM := Lib.hid (newSta_same self n ⟨A, m, c, L⟩ A' c' H)
      have HOK : Hid (StaOk w2 (newSta self n ⟨A, m, c, L⟩ A' c' H)) := Lib.hid ⟨hown.ok, FSOk.zero _, FSOk.zero _, Nat.zero_le _, Nat.zero_le _, Nat.zero_le _, Nat.zero_le _⟩
      have HJ : Hid ((newSta self n ⟨A, m, c, L⟩ A' c' H).j.n ≤ 1000000 ∧ (newSta self n ⟨A, m, c, L⟩ A' c' H).m.n ≤ 1000000) := Lib.hid ⟨Nat.zero_le _, Nat.zero_le _⟩
      obtain ⟨s, hs⟩ : ∃ s, newSta self n ⟨A, m, c, L⟩ A' c' H = s := ⟨_, rfl⟩
      rw [hs] at HR HSM HOK HJ ⊢
      clear hown hb HNEW HRT HO2 hs HB1
      go_upto_region 4 with fail
      have r3 : rowAt (w2.alloc (.cells s.cells 30)) w2.heap.size = some (s.cells, 30) := rowAt_alloc_at _ _ _ _ rfl
      have hb3 : Below w.heap.size w (w2.alloc (.cells s.cells 30)) := below_allocS HB2.out _
      have hok3 := HOK.out.below ((Below.refl w2.heap.size w2).alloc (Nat.le_refl _) (.cells s.cells 30))
      obtain ⟨q, hq⟩ : ∃ q, w2.heap.size = q := ⟨_, rfl⟩
      rw [hq] at r3 ⊢
      clear hq HB2 HOK
      generalize w2.alloc (.cells s.cells 30) = W3 at *
      have HB3 := Lib.hid hb3
      have HOK3 := Lib.hid hok3
      clear hb3 hok3
      refine region_seq ?_
      repeat (go_big_quiet_step ((first | (go_at_call 7; exact quiet_call (by simp) (rfldsS_at H5.out ((HS.out.is.below HB3.out).below (Later.below _)) (Nat.le_trans HS.out.le HS.out.big))))))
      refine wpQuiet_nil ?_
      intro w4 hb4
      have r4 := rowKeep hb4 r3
      have HB4 := Lib.hid (bthen HB3.out hb4)
      have HOK4 := Lib.hid (HOK3.out.below hb4)
      clear hb4 r3 HB3 HOK3 H5 g1 g2 g3 g4
      have n4 := rowAt_lt r4
      cases hz : decide (self = 0)
      · have hz' : (self == 0) = false := by simpa using hz
        have hbs := fun (w : World) => (buildS3_sta w self n A m c).trans (by rw [newS_sta self n A m c L, newSta_zero (of_decide_eq_false hz)])
        have HWT := Lib.hid (fun w' (o : FSOk w' ⟨A, m, c, L⟩) => wantSta_ok o self n)
        obtain ⟨t, ht⟩ : ∃ t : Sta, wantSta self n ⟨A, m, c, L⟩ = t := ⟨_, rfl⟩
        rw [ht] at hbs HSM HWT
        clear ht hz
        go_wp2_with fail
        refine (ssame_at HSM.out (HOK4.out.below ((Below.refl _ _).alloc (Nat.le_refl _) _)) (HWT.out _ (HS.out.below (below_allocS HB4.out _)))).mono ?_
        rintro e w5 ⟨rfl, hb⟩
        have r5 := rowKeep hb (rowPast r4)
        have HB5 := Lib.hid (bthen (below_allocS HB4.out _) hb)
        have HOK5 := Lib.hid (HOK4.out.below (bthen ((Below.refl _ _).alloc (Nat.le_refl _) _) hb))
        clear hb r4 HB4 HOK4
        go_wp2_with fail
        refine (sright_is HR.out HOK5.out HJ.out.1 HJ.out.2).mono ?_
        rintro e w6 ⟨rfl, hb⟩
        have HB6 := Lib.hid (bthen HB5.out hb)
        clear hb
        go_wp2_with fail
        refine (awake17 _).mono ?_
        rintro e w7 ⟨rfl, hb⟩
        have HB7 := Lib.hid (bthen HB6.out hb)
        clear hb
        go_wp2
        go_ret
        exact ⟨rfl, HB7.out⟩
      · have hz' : (self == 0) = true := by simpa using hz
        obtain rfl : self = 0 := of_decide_eq_true hz
        have hbs := fun (w : World) => (buildS3_sta w 0 n A m c).trans (by rw [newS_sta 0 n A m c L])
        obtain ⟨t, ht⟩ : ∃ t : Sta, ({ sta0 with self := 0, nn := n, f := ⟨A, m, c, L⟩ } : Sta) = t := ⟨_, rfl⟩
        rw [ht] at hbs
        have HT := Lib.hid ht
        clear ht hz
        go_upto_region 9 with fail
        rw [show ({ t with bn := n, bst := sta0.bst, bnum := sta0.bnum, bep := sta0.bep, bp := sta0.bp, due := sta0.due, ack := sta0.ack, told := sta0.told, j := sta0.j, m := sta0.m } : Sta) = wantSta 0 n ⟨A, m, c, L⟩ from by rw [← HT.out]; rfl]
        have HWT := Lib.hid (fun w' (o : FSOk w' ⟨A, m, c, L⟩) => wantSta_ok o 0 n)
        obtain ⟨t2, ht2⟩ : ∃ t : Sta, wantSta 0 n ⟨A, m, c, L⟩ = t := ⟨_, rfl⟩
        rw [ht2] at HSM HWT ⊢
        clear ht2 HT hbs
        go_wp2_with fail
        refine (ssame_at HSM.out (HOK4.out.below ((Below.refl _ _).alloc (Nat.le_refl _) _)) (HWT.out _ (HS.out.below (below_allocS HB4.out _)))).mono ?_
        rintro e w5 ⟨rfl, hb⟩
        have r5 := rowKeep hb (rowPast r4)
        have HB5 := Lib.hid (bthen (below_allocS HB4.out _) hb)
        have HOK5 := Lib.hid (HOK4.out.below (bthen ((Below.refl _ _).alloc (Nat.le_refl _) _) hb))
        clear hb r4 HB4 HOK4
        go_wp2_with fail
        refine (sright_is HR.out HOK5.out HJ.out.1 HJ.out.2).mono ?_
        rintro e w6 ⟨rfl, hb⟩
        have HB6 := Lib.hid (bthen HB5.out hb)
        clear hb
        go_wp2_with fail
        refine (awake17 _).mono ?_
        rintro e w7 ⟨rfl, hb⟩
        have HB7 := Lib.hid (bthen HB6.out hb)
        clear hb
        go_wp2
        go_ret
        exact ⟨rfl, HB7.out⟩
end Go.Proofs.YtinhaipnmmgplaaGreat
