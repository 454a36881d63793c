/-
  Layer 17 (state): fields in memory of their own; a copy.
-/
import Derived.Test.YtinhaipnmmgplaaGreatZSta
import Derived.Test.YtinhaipnmmgplaaGreatZMFld
import Derived.Test.YtinhaipnmmgplaaGreatZDown
import Derived.Test.YtinhaipnmmgplaaGreatZHeldR
import Derived.Test.YtinhaipnmmgplaaGreatZMDec
namespace Go.Proofs.YtinhaipnmmgplaaGreat
set_option maxRecDepth 20000
open Go.RowKit
set_option linter.unusedSimpArgs false
set_option linter.unusedVariables false
attribute [local go_sem] rowCells rowAt_drewN get_ints getE_ints set_ints size_ints rowAt_alloc rowAt_drew setRow_alloc setRow_drewN setRow_drew setCell_alloc setCell_drewN splice_upd splice_put splice_all load_vec_cut load_vecs_cut load_rights_cut load_counter store_vec store_rights store_counter eql_vec neq_vec index_vec eql_rights neq_rights eql_counter index_vecs cut_ints sub_zero
attribute [local go_sem ↓] xload_vec xstore_vec xalloc_vec xeql_vec xneq_vec xindex_vec xbuild_vec0 xload_rights xstore_rights xalloc_rights xeql_rights xneq_rights xbuild_rights0 xload_vecs xindex_vecs xload_counter xstore_counter xalloc_counter xbuild_counter0 xeql_counter xbuild_counter3
attribute [local go_sem] rowAt_setRow rowAt_setCell load_vec_cut_later load_rights_later load_counter_later Later.cell Later.frozen build3_ints
attribute [local go_sem ↓] xload_field xstore_field xalloc_field xload_lock
attribute [local go_sem] load_field load_field_later store_field load_counter_cut load_lock_cut load_lock_later Fld.size Fld.get0 Fld.get1 Fld.get2 Fld.get586 Fld.getE0 Fld.getE1 Fld.getE2 Fld.getE586 Fld.cut_cnt Fld.cut_lock Fld.cut_all Fld.splice_all strT_size

attribute [local go_sem ↓] xload_hold xstore_hold xalloc_hold
attribute [local go_sem] load_hold load_hold_later store_hold
attribute [local go_sem ↓] xbuild_lock0 xeql_lock xneq_lock xneq_counter
attribute [local go_sem] eql_lock neq_lock neq_counter

attribute [local go_sem] zero_field
attribute [local go_sem] resC_size resC_all resC_splice resC_set0 resC_set1 Fld.set2 Fld.set586
attribute [local go_sem ↓] xbuildS_field
attribute [local go_sem] buildSF_agg
attribute [local go_sem ↓] xstore_sta xload_sta xalloc_sta xbuild_sta0 xstore_bar xload_bar xalloc_bar xbuild_bar0 xstore_plan xload_plan xalloc_plan xbuild_plan0
attribute [local go_sem] load_sta load_sta_later store_sta load_bar load_bar_later store_bar load_plan load_plan_later store_plan
attribute [local go_sem] Sta.size Sta.bsize Pl.size Sta.cut_all Sta.cut_p Sta.cut_bar Sta.cut_bp Sta.bcut_all Sta.bcut_p Pl.cut_all Sta.splice_all Sta.bsplice_all Pl.splice_all Sta.splice_bar
attribute [local go_sem] Sta.get0 Sta.getE0 Sta.set0 Sta.get1 Sta.getE1 Sta.set1 Sta.get2 Sta.getE2 Sta.set2 Sta.get3 Sta.getE3 Sta.set3 Sta.get4 Sta.getE4 Sta.set4 Sta.get5 Sta.getE5 Sta.set5 Sta.get6 Sta.getE6 Sta.set6 Sta.get7 Sta.getE7 Sta.set7 Sta.get8 Sta.getE8 Sta.set8 Sta.get9 Sta.getE9 Sta.set9 Sta.get10 Sta.getE10 Sta.set10 Sta.get11 Sta.getE11 Sta.set11 Sta.get12 Sta.getE12 Sta.set12 Sta.get13 Sta.getE13 Sta.set13 Sta.get14 Sta.getE14 Sta.set14 Sta.get15 Sta.getE15 Sta.set15 Sta.get16 Sta.getE16 Sta.set16 Sta.get17 Sta.getE17 Sta.set17 Sta.get18 Sta.getE18 Sta.set18 Sta.get19 Sta.getE19 Sta.set19 Sta.get20 Sta.getE20 Sta.set20 Sta.get21 Sta.getE21 Sta.set21 Sta.get22 Sta.getE22 Sta.set22 Sta.get23 Sta.getE23 Sta.set23 Sta.get24 Sta.getE24 Sta.set24
attribute [local go_sem] Sta.bget0 Sta.bgetE0 Sta.bget1 Sta.bgetE1 Sta.bget2 Sta.bgetE2 Sta.bget3 Sta.bgetE3 Sta.bget4 Sta.bgetE4 Sta.bget5 Sta.bgetE5 Sta.bget6 Sta.bgetE6 Sta.bget7 Sta.bgetE7 Sta.bget8 Sta.bgetE8 Sta.bget9 Sta.bgetE9 Sta.bget10 Sta.bgetE10 Sta.bget11 Sta.bgetE11 Sta.bget12 Sta.bgetE12 Sta.bget13 Sta.bgetE13 Pl.get0 Pl.getE0 Pl.get1 Pl.getE1 Pl.get2 Pl.getE2 Pl.get3 Pl.getE3 Pl.get4 Pl.getE4

theorem RF.nil (w : World) (B : Nat) (L : Nat → Fld) : RF w B L 0 none 0 fun _ => (none, 0) := ⟨own_nil _ _ _ _, fun i hi => by omega⟩
theorem RF.push {w w' : World} {B k : Nat} {L : Nat → Fld} {A : Option Addr} {c : Nat} {H : Nat → Option Addr × Nat} (h : RF w B L k A c H) {F' : Fld} {A9 : Option Addr} {c9 : Nat} (hF : { L k with hA := A9, hc := c9 } = F') {v' : Value}
    (hown : w'.ownsRow B 58 587 v' (k + 1) (fldV L H k ++ F'.cells.toList)) (hk : KeepH w w') (hok : FldOk w' F' ∧ HT w' F') :
    ∃ a d, v' = .slice a (k + 1) d ∧ RF w' B L (k + 1) a d (fun i => if i < k then H i else (A9, c9)) := by
  obtain ⟨H', hH', hH1, hH2⟩ : ∃ H' : Nat → Option Addr × Nat, (fun i => if i < k then H i else (A9, c9)) = H' ∧ (∀ i, i < k → H i = H' i) ∧ H' k = (A9, c9) := ⟨_, rfl, fun i hi => by simp [hi], by simp⟩
  rw [hH']
  have e1 : ∀ i, i < k → reF L H' i = reF L H i := fun i hi => by unfold reF; rw [hH1 i hi]
  have e2 : reF L H' k = F' := by unfold reF; rw [hH2, ← hF]
  rw [show fldV L H k ++ F'.cells.toList = fldV L H' (k + 1) by rw [fldV, e2, fldV_congr k hH1]] at hown
  obtain ⟨a, d, rfl, -, -, -, -, -⟩ := own_open hown (by decide)
  refine ⟨a, d, rfl, hown, fun i hi => ?_⟩
  by_cases hik : i = k
  · subst hik
    rw [e2]
    exact hok
  · rw [e1 i (by omega)]
    exact hk.fld (h.ok i (by omega)).1 (h.ok i (by omega)).2
/-- Fields in memory of their own, from block B on. -/
structure OwnF (w : World) (B : Nat) (L : Nat → Fld) (n : Nat) (A : Option Addr) (c : Nat) (H : Nat → Option Addr × Nat) : Prop where
  rf : RF w B L n A c H
  low : ∀ i, i < n → ∀ x, (H i).1 = some x → B ≤ x.block
theorem OwnF.below {w w' : World} {B : Nat} {L : Nat → Fld} {n : Nat} {A : Option Addr} {c : Nat} {H : Nat → Option Addr × Nat} (h : OwnF w B L n A c H) (hb : Below w.heap.size w w') : OwnF w' B L n A c H := ⟨h.rf.below hb, h.low⟩
def OwnF.fs (L : Nat → Fld) (n : Nat) (A : Option Addr) (c : Nat) (H : Nat → Option Addr × Nat) : FS := ⟨A, n, c, reF L H⟩
theorem OwnF.ok {w : World} {B : Nat} {L : Nat → Fld} {n : Nat} {A : Option Addr} {c : Nat} {H : Nat → Option Addr × Nat} (h : OwnF w B L n A c H) : FSOk w ⟨A, n, c, reF L H⟩ := by
  have := h.rf.is
  exact ⟨this.1, this.2.1, this.2.2.1, this.2.2.2.1⟩
set_option maxHeartbeats 4000000 in
theorem sown_ok (F : FS) (w : World) (h : FSOk w F) (hn : F.n ≤ 1000) (hh : ∀ i, i < F.n → (F.l i).hn ≤ 1000000) :
    Calls Tryz.prog 15 #[F.val] w fun e w' => ∃ A c H, e = .returned (.slice A F.n c) ∧ OwnF w' w.heap.size F.l F.n A c H ∧ Below w.heap.size w w' := by
  obtain ⟨A, n, c, L⟩ := F
  have HF := Lib.hid h.is
  have HH := Lib.hid hh
  clear h hh
  dsimp only at *
  unfold FS.val
  go_enter Tryz.func15, Tryz.ntmps15
  go_wp2_with fail
  go_loopw [3, 8] (fun u i w' => ∃ (k : Nat) (A' : Option Addr) (c' : Nat) (H : Nat → Option Addr × Nat), k ≤ n ∧ i = .int .i64 k ∧ u = .slice A' k c' ∧ OwnF w' w.heap.size L k A' c' H ∧ Below w.heap.size w w') (fun _ i _ => n - (intOf i).toNat)
  case atStart => exact ⟨0, none, 0, fun _ => (none, 0), Nat.zero_le _, rfl, rfl, ⟨RF.nil _ _ _, fun i hi => by omega⟩, Below.refl _ _⟩
  case round =>
    rename World => wr
    obtain ⟨k, A', c', H, hk, rfl, rfl, hrs, hb⟩ := hrel
    have HRS := Lib.hid hrs
    have HB := Lib.hid hb
    by_cases hlt : k < n
    · obtain ⟨b, o, hA, hlb, hnm, hl⟩ := (HF.out.below hb).at_ hlt
      have hl1 := hl wr (Below.refl _ _)
      have HK := Lib.hid ((HF.out.below hb).ok k hlt)
      have hhn := HH.out k hlt
      have HLK : Hid (∃ F, L k = F) := Lib.hid ⟨_, rfl⟩
      obtain ⟨F, hF⟩ := HLK.out
      rw [hF] at hl1 HK hhn
      rw [hA]
      have HFK := Lib.hid hF
      have hws := hb.size
      clear hl hb hA hrs hnm hF HLK
      go_wp2_with fail
      have hal : ∀ W : World, W = wr.alloc (.cells F.cells 58) → Below wr.heap.size wr W := fun W h => h ▸ (Below.refl _ _).alloc (Nat.le_refl _) _
      have hal := hal _ rfl
      have r1 : rowAt (wr.alloc (.cells F.cells 58)) wr.heap.size = some (F.cells, 58) := rowAt_alloc_at _ _ _ _ rfl
      have HK1 := Lib.hid (HK.out.below hal)
      have HRS1 := Lib.hid (HRS.out.below hal)
      have HB1 := Lib.hid (bthen HB.out hal)
      refine (clone_holds F.hA F.hn F.hc F.hs _ HK1.out.holds HK1.out.nil HK1.out.le hhn).mono ?_
      rintro e w4 ⟨A9, c9, rfl, ho, hb4⟩
      have r4 := rowKeep hb4 r1
      have f4 := frozen_of_rowAt r4
      have rz : (w4.cell? ⟨wr.heap.size, 586, none⟩) = some (.slice F.hA F.hn F.hc) := by rw [cell_of_rowAt r4, Fld.get586]
      have hb5 : Below wr.heap.size wr (w4.setCell ⟨wr.heap.size, 586, none⟩ (.slice A9 F.hn c9)) := below_setCell' (bthen hal hb4) (Nat.le_refl _)
      have hk5 : KeepH w4 (w4.setCell ⟨wr.heap.size, 586, none⟩ (.slice A9 F.hn c9)) := KeepH.setCell r4 (by decide)
      obtain ⟨F', hF'⟩ : ∃ F', ({ F with hA := A9, hc := c9 } : Fld) = F' := ⟨_, rfl⟩
      have r5 : rowAt (w4.setCell ⟨wr.heap.size, 586, none⟩ (.slice A9 F.hn c9)) wr.heap.size = some (F'.cells, 58) := by rw [rowAt_setCell, if_pos rfl, r4, ← hF', Option.map_some, Fld.set586]
      have hok4 : FldOk w4 F' ∧ HT w4 F' := by
        rw [← hF']
        exact ⟨⟨ho.1, ho.2.1, ho.2.2.1, ⟨HK1.out.big.1, ho.2.2.2.1⟩⟩, fun x hx => (ho.2.2.2.2 x hx).2⟩
      have HOK5 := Lib.hid (hk5.fld hok4.1 hok4.2)
      have HLO : Hid (∀ x, A9 = some x → w.heap.size ≤ x.block) := Lib.hid fun x hx => by have := (ho.2.2.2.2 x hx).1; simp at this; omega
      have HRS5 := Lib.hid (HRS.out.below hb5)
      have HB5 := Lib.hid (bthen HB.out hb5)
      obtain ⟨W5, hW5⟩ : ∃ W5, w4.setCell ⟨wr.heap.size, 586, none⟩ (.slice A9 F.hn c9) = W5 := ⟨_, rfl⟩
      rw [hW5] at r5 HOK5 HRS5 HB5
      have HW5 := Lib.hid hW5
      have HFF := Lib.hid hF'
      clear ho hb4 r1 hal HK HK1 HRS HRS1 HB HB1 hl1 hb5 hk5 hok4 hF' hW5
      go_upto_region 6 with fail
      rw [HW5.out]
      clear HW5 r4 f4 rz
      have hws5 := HB5.out.size
      go_wp2_with (at_builtin; refine wl_append_rows2 Tryz.underlying22 info_field fld0.size (by decide) rfl _ _ rfl rfl (own_alloc HRS5.out.rf.own _) _ 1 1 F'.cells.toList rfl ?c1 (fun h => by cases h) ?c2 ?c3 ?c4 ?c5 ?c6 ?_)
      case c1 => rw [Array.length_toList, F'.size]
      case c2 => intro j u hu; exact ⟨W5.heap.size, 0, rfl, by rw [Nat.zero_add, cell_of_rowAt (rowAt_alloc_at _ _ _ _ rfl), ← hu]; simp⟩
      case c3 => exact fun u hu => (Array.all_eq_true_iff_forall_mem.1 F'.one) u (by simpa using hu)
      case c4 => omega
      case c5 => omega
      case c6 => simp; omega
      intro v' w7 hown hb hgr
      have hal3 : Below W5.heap.size W5 (W5.alloc (.cells F'.cells 58)) := (Below.refl _ _).alloc (Nat.le_refl _) _
      have hkp := (KeepH.below hal3).trans (KeepH.grown (own_alloc HRS5.out.rf.own _) hgr (by decide))
      have h07 := (bthen HB5.out hal3).trans hb
      have hlk : ({ L k with hA := A9, hc := c9 } : Fld) = F' := by rw [HFK.out, HFF.out]
      obtain ⟨a7, d7, rfl, hrs7⟩ := HRS5.out.rf.push hlk hown hkp (hkp.fld HOK5.out.1 HOK5.out.2)
      have HRS7 : Hid (OwnF w7 w.heap.size L (k + 1) a7 d7 (fun i => if i < k then H i else (A9, c9))) := Lib.hid ⟨hrs7, fun i hi => by
        by_cases hik : i < k
        · simp only [if_pos hik]; exact HRS5.out.low i hik
        · simp only [if_neg hik]; exact HLO.out⟩
      have HB7 := Lib.hid h07
      clear hown hb hgr hal3 hkp h07 hrs7 HRS5 HB5 HOK5 HFF HLO hlk r5
      go_wp2_with fail
      go_roundw
      case rel => exact ⟨k + 1, a7, d7, _, by omega, by go_num, rfl, HRS7.out, HB7.out⟩
      case measure => simp [intOf]; omega
    · obtain rfl : k = n := by omega
      clear hrs hb
      go_wp2_with fail
      go_ret
      exact ⟨A', c', H, rfl, HRS.out, HB.out⟩
end Go.Proofs.YtinhaipnmmgplaaGreat

/-
  Layer 17 (state): a copy.
-/
namespace Go.Proofs.YtinhaipnmmgplaaGreat
set_option maxRecDepth 20000
open Go.RowKit
set_option linter.unusedSimpArgs false
set_option linter.unusedVariables false
attribute [local go_sem] rowCells rowAt_drewN get_ints getE_ints set_ints size_ints rowAt_alloc rowAt_drew setRow_alloc setRow_drewN setRow_drew setCell_alloc setCell_drewN splice_upd splice_put splice_all load_vec_cut load_vecs_cut load_rights_cut load_counter store_vec store_rights store_counter eql_vec neq_vec index_vec eql_rights neq_rights eql_counter index_vecs cut_ints sub_zero
attribute [local go_sem ↓] xload_vec xstore_vec xalloc_vec xeql_vec xneq_vec xindex_vec xbuild_vec0 xload_rights xstore_rights xalloc_rights xeql_rights xneq_rights xbuild_rights0 xload_vecs xindex_vecs xload_counter xstore_counter xalloc_counter xbuild_counter0 xeql_counter xbuild_counter3
attribute [local go_sem] rowAt_setRow rowAt_setCell load_vec_cut_later load_rights_later load_counter_later Later.cell Later.frozen build3_ints
attribute [local go_sem ↓] xload_field xstore_field xalloc_field xload_lock
attribute [local go_sem] load_field load_field_later store_field load_counter_cut load_lock_cut load_lock_later Fld.size Fld.get0 Fld.get1 Fld.get2 Fld.get586 Fld.getE0 Fld.getE1 Fld.getE2 Fld.getE586 Fld.cut_cnt Fld.cut_lock Fld.cut_all Fld.splice_all strT_size

attribute [local go_sem ↓] xload_hold xstore_hold xalloc_hold
attribute [local go_sem] load_hold load_hold_later store_hold
attribute [local go_sem ↓] xbuild_lock0 xeql_lock xneq_lock xneq_counter
attribute [local go_sem] eql_lock neq_lock neq_counter

attribute [local go_sem] zero_field
attribute [local go_sem] resC_size resC_all resC_splice resC_set0 resC_set1 Fld.set2 Fld.set586
attribute [local go_sem ↓] xbuildS_field
attribute [local go_sem] buildSF_agg
attribute [local go_sem ↓] xstore_sta xload_sta xalloc_sta xbuild_sta0 xstore_bar xload_bar xalloc_bar xbuild_bar0 xstore_plan xload_plan xalloc_plan xbuild_plan0
attribute [local go_sem] load_sta load_sta_later store_sta load_bar load_bar_later store_bar load_plan load_plan_later store_plan
attribute [local go_sem] Sta.size Sta.bsize Pl.size Sta.cut_all Sta.cut_p Sta.cut_bar Sta.cut_bp Sta.bcut_all Sta.bcut_p Pl.cut_all Sta.splice_all Sta.bsplice_all Pl.splice_all Sta.splice_bar
attribute [local go_sem] Sta.get0 Sta.getE0 Sta.set0 Sta.get1 Sta.getE1 Sta.set1 Sta.get2 Sta.getE2 Sta.set2 Sta.get3 Sta.getE3 Sta.set3 Sta.get4 Sta.getE4 Sta.set4 Sta.get5 Sta.getE5 Sta.set5 Sta.get6 Sta.getE6 Sta.set6 Sta.get7 Sta.getE7 Sta.set7 Sta.get8 Sta.getE8 Sta.set8 Sta.get9 Sta.getE9 Sta.set9 Sta.get10 Sta.getE10 Sta.set10 Sta.get11 Sta.getE11 Sta.set11 Sta.get12 Sta.getE12 Sta.set12 Sta.get13 Sta.getE13 Sta.set13 Sta.get14 Sta.getE14 Sta.set14 Sta.get15 Sta.getE15 Sta.set15 Sta.get16 Sta.getE16 Sta.set16 Sta.get17 Sta.getE17 Sta.set17 Sta.get18 Sta.getE18 Sta.set18 Sta.get19 Sta.getE19 Sta.set19 Sta.get20 Sta.getE20 Sta.set20 Sta.get21 Sta.getE21 Sta.set21 Sta.get22 Sta.getE22 Sta.set22 Sta.get23 Sta.getE23 Sta.set23 Sta.get24 Sta.getE24 Sta.set24
attribute [local go_sem] Sta.bget0 Sta.bgetE0 Sta.bget1 Sta.bgetE1 Sta.bget2 Sta.bgetE2 Sta.bget3 Sta.bgetE3 Sta.bget4 Sta.bgetE4 Sta.bget5 Sta.bgetE5 Sta.bget6 Sta.bgetE6 Sta.bget7 Sta.bgetE7 Sta.bget8 Sta.bgetE8 Sta.bget9 Sta.bgetE9 Sta.bget10 Sta.bgetE10 Sta.bget11 Sta.bgetE11 Sta.bget12 Sta.bgetE12 Sta.bget13 Sta.bgetE13 Pl.get0 Pl.getE0 Pl.get1 Pl.getE1 Pl.get2 Pl.getE2 Pl.get3 Pl.getE3 Pl.get4 Pl.getE4

theorem OwnF.only {w w' : World} {B p : Nat} {L : Nat → Fld} {n : Nat} {A : Option Addr} {c : Nat} {H : Nat → Option Addr × Nat} {cs : Array Value} {t : TypeId} (h : OwnF w B L n A c H) (ho : Only p w w') (hp : rowAt w p = some (cs, t)) (t1 : t ≠ 87) (t2 : t ≠ 58) : OwnF w' B L n A c H :=
  ⟨h.rf.only ho hp t1 t2, h.low⟩
theorem OwnF.mono {w : World} {B B' : Nat} {L : Nat → Fld} {n : Nat} {A : Option Addr} {c : Nat} {H : Nat → Option Addr × Nat} (h : OwnF w B L n A c H) (hb : B' ≤ B) : OwnF w B' L n A c H :=
  ⟨h.rf.mono hb, fun i hi x hx => Nat.le_trans hb (h.low i hi x hx)⟩
theorem Only.setRow {p : Nat} {w : World} (cs : Array Value) : Only p w (w.setRow p cs) :=
  ⟨by rw [setRow_size]; exact Nat.le_refl _, below_setRow' (Below.refl _ _) (Nat.le_refl _) _, fun g h1 _ => setRow_other w p g cs h1⟩
theorem load_sta_row {w : World} {g : Nat} {t : Sta} {T : TypeId} (h : rowAt w g = some (t.cells, T)) : loadAgg Tryz.prog w 30 (.pointer (some ⟨g, 0, none⟩)) = .ok (.value (.agg t.cells)) w := by
  have hs : rowCells w g = t.cells := by simp [rowCells, h]
  rw [load_sta w g 0 (by rw [h]; rfl) (by rw [hs, t.size]; exact Nat.le_refl _), hs, t.cut_all]
/-- A state's copy, its fields in memory from block B on. -/
def CopyOf (w : World) (B : Nat) (s t : Sta) : Prop := ∃ A1 c1 H1 A2 c2 H2 A3 c3 H3, t = { s with f := ⟨A1, s.f.n, c1, reF s.f.l H1⟩, j := ⟨A2, s.j.n, c2, reF s.j.l H2⟩, m := ⟨A3, s.m.n, c3, reF s.m.l H3⟩ } ∧
  OwnF w B s.f.l s.f.n A1 c1 H1 ∧ OwnF w B s.j.l s.j.n A2 c2 H2 ∧ OwnF w B s.m.l s.m.n A3 c3 H3
def fewFS (F : FS) : Prop := F.n ≤ 1000 ∧ ∀ i, i < F.n → (F.l i).hn ≤ 1000000
def fewS (s : Sta) : Prop := fewFS s.f ∧ fewFS s.j ∧ fewFS s.m
end Go.Proofs.YtinhaipnmmgplaaGreat
