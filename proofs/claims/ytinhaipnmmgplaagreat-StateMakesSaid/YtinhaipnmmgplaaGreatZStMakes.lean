/-
  Layer 17 (state): New that tells an error.
-/
import Derived.Test.YtinhaipnmmgplaaGreatZGP
namespace Go.Proofs.YtinhaipnmmgplaaGreat
set_option maxRecDepth 20000
open Go.RowKit
set_option linter.unusedSimpArgs false
set_option linter.unusedVariables false
attribute [local go_sem] rowCells rowAt_drewN get_ints getE_ints set_ints size_ints rowAt_alloc rowAt_drew setRow_alloc setRow_drewN setRow_drew setCell_alloc setCell_drewN splice_upd splice_put splice_all load_vec_cut load_vecs_cut load_rights_cut load_counter store_vec store_rights store_counter eql_vec neq_vec index_vec eql_rights neq_rights eql_counter index_vecs cut_ints sub_zero
attribute [local go_sem ↓] xload_vec xstore_vec xalloc_vec xeql_vec xneq_vec xindex_vec xbuild_vec0 xload_rights xstore_rights xalloc_rights xeql_rights xneq_rights xbuild_rights0 xload_vecs xindex_vecs xload_counter xstore_counter xalloc_counter xbuild_counter0 xeql_counter xbuild_counter3
attribute [local go_sem] rowAt_setRow rowAt_setCell load_vec_cut_later load_rights_later load_counter_later Later.cell Later.frozen build3_ints
attribute [local go_sem ↓] xload_field xstore_field xalloc_field xload_lock
attribute [local go_sem] load_field load_field_later store_field load_counter_cut load_lock_cut load_lock_later Fld.size Fld.get0 Fld.get1 Fld.get2 Fld.get586 Fld.getE0 Fld.getE1 Fld.getE2 Fld.getE586 Fld.cut_cnt Fld.cut_lock Fld.cut_all Fld.splice_all strT_size

attribute [local go_sem ↓] xload_hold xstore_hold xalloc_hold
attribute [local go_sem] load_hold load_hold_later store_hold
attribute [local go_sem ↓] xbuild_lock0 xeql_lock xneq_lock xneq_counter
attribute [local go_sem] eql_lock neq_lock neq_counter

attribute [local go_sem] zero_field
attribute [local go_sem] resC_size resC_all resC_splice resC_set0 resC_set1 Fld.set2 Fld.set586
attribute [local go_sem ↓] xbuildS_field
attribute [local go_sem] buildSF_agg
attribute [local go_sem ↓] xstore_sta xload_sta xalloc_sta xbuild_sta0 xstore_bar xload_bar xalloc_bar xbuild_bar0 xstore_plan xload_plan xalloc_plan xbuild_plan0
attribute [local go_sem] load_sta load_sta_later store_sta load_bar load_bar_later store_bar load_plan load_plan_later store_plan
attribute [local go_sem] Sta.size Sta.bsize Pl.size Sta.cut_all Sta.cut_p Sta.cut_bar Sta.cut_bp Sta.bcut_all Sta.bcut_p Pl.cut_all Sta.splice_all Sta.bsplice_all Pl.splice_all Sta.splice_bar
attribute [local go_sem] Sta.get0 Sta.getE0 Sta.set0 Sta.get1 Sta.getE1 Sta.set1 Sta.get2 Sta.getE2 Sta.set2 Sta.get3 Sta.getE3 Sta.set3 Sta.get4 Sta.getE4 Sta.set4 Sta.get5 Sta.getE5 Sta.set5 Sta.get6 Sta.getE6 Sta.set6 Sta.get7 Sta.getE7 Sta.set7 Sta.get8 Sta.getE8 Sta.set8 Sta.get9 Sta.getE9 Sta.set9 Sta.get10 Sta.getE10 Sta.set10 Sta.get11 Sta.getE11 Sta.set11 Sta.get12 Sta.getE12 Sta.set12 Sta.get13 Sta.getE13 Sta.set13 Sta.get14 Sta.getE14 Sta.set14 Sta.get15 Sta.getE15 Sta.set15 Sta.get16 Sta.getE16 Sta.set16 Sta.get17 Sta.getE17 Sta.set17 Sta.get18 Sta.getE18 Sta.set18 Sta.get19 Sta.getE19 Sta.set19 Sta.get20 Sta.getE20 Sta.set20 Sta.get21 Sta.getE21 Sta.set21 Sta.get22 Sta.getE22 Sta.set22 Sta.get23 Sta.getE23 Sta.set23 Sta.get24 Sta.getE24 Sta.set24
attribute [local go_sem] Sta.bget0 Sta.bgetE0 Sta.bget1 Sta.bgetE1 Sta.bget2 Sta.bgetE2 Sta.bget3 Sta.bgetE3 Sta.bget4 Sta.bgetE4 Sta.bget5 Sta.bgetE5 Sta.bget6 Sta.bgetE6 Sta.bget7 Sta.bgetE7 Sta.bget8 Sta.bgetE8 Sta.bget9 Sta.bgetE9 Sta.bget10 Sta.bgetE10 Sta.bget11 Sta.bgetE11 Sta.bget12 Sta.bgetE12 Sta.bget13 Sta.bgetE13 Pl.get0 Pl.getE0 Pl.get1 Pl.getE1 Pl.get2 Pl.getE2 Pl.get3 Pl.getE3 Pl.get4 Pl.getE4

set_option maxHeartbeats 8000000 in
theorem snew_no (self n : Int) (F : FS) (w : World) (hF : FSOk w F) (h : n < 2 ∨ 16 < n ∨ self < 0 ∨ n ≤ self ∨ fldsB F.n F.l = false) :
    Calls Tryz.prog 6 #[.int .i64 self, .int .i64 n, .slice F.A F.n F.c] w fun e w' => e = .returned (.tuple #[.agg sta0.cells, .int .i64 1]) ∧ Below w.heap.size w w' := by
  by_cases h1 : n < 2 ∨ 16 < n
  · have HA1 := Lib.hid h1
    clear h h1
    go_enter Tryz.func6, Tryz.ntmps6
    go_wp2_with fail
    refine (barNew_no n _ HA1.out).mono ?_
    rintro e w1 ⟨rfl, hb⟩
    have r1 : rowAt w1 w.heap.size = some (sta0.cells, 30) := rowKeep hb (rowAt_alloc_at _ _ _ _ rfl)
    have HB1 := Lib.hid (bthen (below_allocS (Below.refl _ _) _) hb)
    clear hb HA1
    have n1 := rowAt_lt r1
    go_wp2_with fail
    refine ret_ct (u := .int .i64 1) (by rfl) (by with_unfolding_all rfl) (by with_unfolding_all rfl) (by rfl) (load_sta_row (rowPast (rowAt_setRow_same _ r1))) ?_
    exact ⟨rfl, below_allocS (below_setRow' HB1.out (Nat.le_refl _) _) _⟩
  have HA1 : Hid (2 ≤ n) := Lib.hid (by omega)
  have HA2 : Hid (n ≤ 16) := Lib.hid (by omega)
  by_cases h3 : self < 0
  · have g3 : decide (self < 0) = true := decide_eq_true h3
    clear h h1
    go_enter Tryz.func6, Tryz.ntmps6
    go_wp2_with fail
    refine (barNew_ok n _ HA1.out HA2.out).mono ?_
    rintro e w1 ⟨rfl, hb⟩
    have r1 : rowAt w1 w.heap.size = some (sta0.cells, 30) := rowKeep hb (rowAt_alloc_at _ _ _ _ rfl)
    have HB1 := Lib.hid (bthen (below_allocS (Below.refl _ _) _) hb)
    clear hb HA1 HA2
    have n1 := rowAt_lt r1
    go_wp2_with fail
    refine ret_ct (u := .int .i64 1) (by rfl) (by with_unfolding_all rfl) (by with_unfolding_all rfl) (by rfl) (load_sta_row (rowPast (rowAt_setRow_same _ r1))) ?_
    exact ⟨rfl, below_allocS (below_setRow' HB1.out (Nat.le_refl _) _) _⟩
  by_cases h4 : n ≤ self
  · have g3 : decide (self < 0) = false := decide_eq_false h3
    have g4 : decide (n ≤ self) = true := decide_eq_true h4
    clear h h1
    go_enter Tryz.func6, Tryz.ntmps6
    go_wp2_with fail
    refine (barNew_ok n _ HA1.out HA2.out).mono ?_
    rintro e w1 ⟨rfl, hb⟩
    have r1 : rowAt w1 w.heap.size = some (sta0.cells, 30) := rowKeep hb (rowAt_alloc_at _ _ _ _ rfl)
    have HB1 := Lib.hid (bthen (below_allocS (Below.refl _ _) _) hb)
    clear hb HA1 HA2
    have n1 := rowAt_lt r1
    go_wp2_with fail
    refine ret_ct (u := .int .i64 1) (by rfl) (by with_unfolding_all rfl) (by with_unfolding_all rfl) (by rfl) (load_sta_row (rowPast (rowAt_setRow_same _ r1))) ?_
    exact ⟨rfl, below_allocS (below_setRow' HB1.out (Nat.le_refl _) _) _⟩
  · have H5 : Hid (fldsB F.n F.l = false) := Lib.hid (by rcases h with h | h | h | h | h; omega; omega; omega; omega; exact h)
    have HF := Lib.hid hF
    have g3 : decide (self < 0) = false := decide_eq_false h3
    have g4 : decide (n ≤ self) = false := decide_eq_false h4
    clear h h1 h3 h4 hF
    go_enter Tryz.func6, Tryz.ntmps6
    go_wp2_with fail
    refine (barNew_ok n _ HA1.out HA2.out).mono ?_
    rintro e w1 ⟨rfl, hb⟩
    have r1 : rowAt w1 w.heap.size = some (sta0.cells, 30) := rowKeep hb (rowAt_alloc_at _ _ _ _ rfl)
    have HB1 := Lib.hid (bthen (below_allocS (Below.refl _ _) _) hb)
    clear hb HA1 HA2
    have n1 := rowAt_lt r1
    go_upto_region 2 with fail
    have r2 : rowAt (w1.alloc (.cells ({ sta0 with bn := n } : Sta).bar 28)) w.heap.size = some (sta0.cells, 30) := rowPast r1
    have hb2 : Below w.heap.size w (w1.alloc (.cells ({ sta0 with bn := n } : Sta).bar 28)) := below_allocS HB1.out _
    generalize w1.alloc (.cells ({ sta0 with bn := n } : Sta).bar 28) = W2 at *
    have HB2 := Lib.hid hb2
    clear hb2 r1 HB1 n1
    refine region_seq ?_
    repeat (go_big_quiet_step ((first | (go_at_call 14; exact quiet_call (by simp) (fields_at H5.out ((HF.out.below HB2.out).below (Later.below _)))))))
    refine wpQuiet_nil ?_
    intro w3 hb3
    have r3 := rowKeep hb3 r2
    have HB3 := Lib.hid (bthen HB2.out hb3)
    clear hb3 r2 HB2 H5
    go_wp2_with fail
    refine ret_ct (u := .int .i64 1) (by rfl) (by with_unfolding_all rfl) (by with_unfolding_all rfl) (by rfl) (load_sta_row (rowAt_setRow_same _ r3)) ?_
    exact ⟨rfl, below_setRow' HB3.out (Nat.le_refl _) _⟩
theorem newSta_right {self n : Int} {F : FS} {A : Option Addr} {c : Nat} {H : Nat → Option Addr × Nat} (h1 : ¬ n < 2) (h2 : ¬ 16 < n) (h3 : ¬ self < 0) (h4 : ¬ n ≤ self) (h5 : fldsB F.n F.l = true) : rightS (newSta self n F A c H) = true := by
  have e : fldsB F.n (reF F.l H) = true := by rw [fldsB_re]; exact h5
  unfold rightS newSta
  dsimp only
  rw [decide_eq_false h1, decide_eq_false h2, decide_eq_false h3, decide_eq_false h4, e]
  by_cases hz : self = 0
  · subst hz
    simp only [ledB, if_true, beq_self_eq_true]
    rfl
  · rw [if_neg hz, if_neg hz]
    rfl
def wantSta (self n : Int) (F : FS) : Sta := { sta0 with self := self, nn := n, f := F, bn := if self = 0 then n else 0 }
theorem newSta_same (self n : Int) (F : FS) (A : Option Addr) (c : Nat) (H : Nat → Option Addr × Nat) : sameSB (newSta self n F A c H) (wantSta self n F) = true := by
  unfold sameSB newSta wantSta
  simp only [beq_self_eq_true, eqPl_refl, sameL_re, sameL_refl, Bool.and_self]
theorem wantSta_ok {w : World} {F : FS} (h : FSOk w F) (self n : Int) : StaOk w (wantSta self n F) := ⟨h, FSOk.zero _, FSOk.zero _, Nat.zero_le _, Nat.zero_le _, Nat.zero_le _, Nat.zero_le _⟩
end Go.Proofs.YtinhaipnmmgplaaGreat
