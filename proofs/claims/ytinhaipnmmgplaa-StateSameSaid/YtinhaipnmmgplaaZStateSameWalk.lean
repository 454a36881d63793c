/-
  Layer 17 (state): the walk of StateSame.
-/
import Derived.Test.YtinhaipnmmgplaaZGP
import Derived.Test.YtinhaipnmmgplaaZStMut
import Derived.Test.YtinhaipnmmgplaaZHeldR
namespace Go.Proofs.Ytinhaipnmmgplaa
set_option maxRecDepth 20000
open Go.RowKit
set_option linter.unusedSimpArgs false
set_option linter.unusedVariables false
attribute [local go_sem] rowCells rowAt_drewN get_ints getE_ints set_ints size_ints rowAt_alloc rowAt_drew setRow_alloc setRow_drewN setRow_drew setCell_alloc setCell_drewN splice_upd splice_put splice_all load_vec_cut load_vecs_cut load_rights_cut load_counter store_vec store_rights store_counter eql_vec neq_vec index_vec eql_rights neq_rights eql_counter index_vecs cut_ints sub_zero
attribute [local go_sem ↓] xload_vec xstore_vec xalloc_vec xeql_vec xneq_vec xindex_vec xbuild_vec0 xload_rights xstore_rights xalloc_rights xeql_rights xneq_rights xbuild_rights0 xload_vecs xindex_vecs xload_counter xstore_counter xalloc_counter xbuild_counter0 xeql_counter xbuild_counter3
attribute [local go_sem] rowAt_setRow rowAt_setCell load_vec_cut_later load_rights_later load_counter_later Later.cell Later.frozen build3_ints
attribute [local go_sem ↓] xload_field xstore_field xalloc_field xload_lock
attribute [local go_sem] load_field load_field_later store_field load_counter_cut load_lock_cut load_lock_later Fld.size Fld.get0 Fld.get1 Fld.get2 Fld.get586 Fld.getE0 Fld.getE1 Fld.getE2 Fld.getE586 Fld.cut_cnt Fld.cut_lock Fld.cut_all Fld.splice_all strT_size

attribute [local go_sem ↓] xload_hold xstore_hold xalloc_hold
attribute [local go_sem] load_hold load_hold_later store_hold
attribute [local go_sem ↓] xbuild_lock0 xeql_lock xneq_lock xneq_counter
attribute [local go_sem] eql_lock neq_lock neq_counter

attribute [local go_sem] zero_field
attribute [local go_sem] resC_size resC_all resC_splice resC_set0 resC_set1 Fld.set2 Fld.set586
attribute [local go_sem ↓] xbuildS_field
attribute [local go_sem] buildSF_agg
attribute [local go_sem ↓] xstore_sta xload_sta xalloc_sta xbuild_sta0 xstore_bar xload_bar xalloc_bar xbuild_bar0 xstore_plan xload_plan xalloc_plan xbuild_plan0
attribute [local go_sem] load_sta load_sta_later store_sta load_bar load_bar_later store_bar load_plan load_plan_later store_plan
attribute [local go_sem] Sta.size Sta.bsize Pl.size Sta.cut_all Sta.cut_p Sta.cut_bar Sta.cut_bp Sta.bcut_all Sta.bcut_p Pl.cut_all Sta.splice_all Sta.bsplice_all Pl.splice_all Sta.splice_bar
attribute [local go_sem] Sta.get0 Sta.getE0 Sta.set0 Sta.get1 Sta.getE1 Sta.set1 Sta.get2 Sta.getE2 Sta.set2 Sta.get3 Sta.getE3 Sta.set3 Sta.get4 Sta.getE4 Sta.set4 Sta.get5 Sta.getE5 Sta.set5 Sta.get6 Sta.getE6 Sta.set6 Sta.get7 Sta.getE7 Sta.set7 Sta.get8 Sta.getE8 Sta.set8 Sta.get9 Sta.getE9 Sta.set9 Sta.get10 Sta.getE10 Sta.set10 Sta.get11 Sta.getE11 Sta.set11 Sta.get12 Sta.getE12 Sta.set12 Sta.get13 Sta.getE13 Sta.set13 Sta.get14 Sta.getE14 Sta.set14 Sta.get15 Sta.getE15 Sta.set15 Sta.get16 Sta.getE16 Sta.set16 Sta.get17 Sta.getE17 Sta.set17 Sta.get18 Sta.getE18 Sta.set18 Sta.get19 Sta.getE19 Sta.set19 Sta.get20 Sta.getE20 Sta.set20 Sta.get21 Sta.getE21 Sta.set21 Sta.get22 Sta.getE22 Sta.set22 Sta.get23 Sta.getE23 Sta.set23 Sta.get24 Sta.getE24 Sta.set24
attribute [local go_sem] Sta.bget0 Sta.bgetE0 Sta.bget1 Sta.bgetE1 Sta.bget2 Sta.bgetE2 Sta.bget3 Sta.bgetE3 Sta.bget4 Sta.bgetE4 Sta.bget5 Sta.bgetE5 Sta.bget6 Sta.bgetE6 Sta.bget7 Sta.bgetE7 Sta.bget8 Sta.bgetE8 Sta.bget9 Sta.bgetE9 Sta.bget10 Sta.bgetE10 Sta.bget11 Sta.bgetE11 Sta.bget12 Sta.bgetE12 Sta.bget13 Sta.bgetE13 Pl.get0 Pl.getE0 Pl.get1 Pl.getE1 Pl.get2 Pl.getE2 Pl.get3 Pl.getE3 Pl.get4 Pl.getE4

theorem CopyOf.same2 {w w' : World} {B B' : Nat} {s t u : Sta} (h : CopyOf w B s t) (h' : CopyOf w' B' t u) : sameSB u s = true := by
  obtain ⟨A1, c1, H1, A2, c2, H2, A3, c3, H3, rfl, _⟩ := h
  obtain ⟨A4, c4, H4, A5, c5, H5, A6, c6, H6, rfl, _⟩ := h'
  exact sameSB_re s A4 c4 H4 A5 c5 H5 A6 c6 H6
theorem CopyOf.few {w : World} {B : Nat} {s t : Sta} (h : CopyOf w B s t) (hf : fewS s) : fewS t := by
  obtain ⟨A1, c1, H1, A2, c2, H2, A3, c3, H3, rfl, _⟩ := h
  exact hf
theorem CopyOf.names {w : World} {B : Nat} {s t : Sta} (h : CopyOf w B s t) (hb : s.p.n.length ≤ 9223372036854775807 ∧ s.p.o.length ≤ 9223372036854775807 ∧ s.bp.n.length ≤ 9223372036854775807 ∧ s.bp.o.length ≤ 9223372036854775807) : t.p.n.length ≤ 9223372036854775807 ∧ t.p.o.length ≤ 9223372036854775807 ∧ t.bp.n.length ≤ 9223372036854775807 ∧ t.bp.o.length ≤ 9223372036854775807 := by
  obtain ⟨A1, c1, H1, A2, c2, H2, A3, c3, H3, rfl, _⟩ := h
  exact hb
set_option maxHeartbeats 8000000 in
theorem stateSame_walk (a b : Sta) (w : World) (h1 : StaOk w a) (h2 : StaOk w b) :
    Calls Try.prog 5 #[.agg a.cells, .agg b.cells] w fun e w' => e = .returned (.bool true) ∧ Below w.heap.size w w' := by
  obtain ⟨fa, hfa⟩ : ∃ x, few17 a = x := ⟨_, rfl⟩
  obtain ⟨fb, hfb⟩ : ∃ x, few17 b = x := ⟨_, rfl⟩
  obtain ⟨Ra, hRa⟩ : ∃ R, rightS a = R := ⟨_, rfl⟩
  obtain ⟨Rb, hRb⟩ : ∃ R, rightS b = R := ⟨_, rfl⟩
  have HFA := Lib.hid hfa
  have HFB := Lib.hid hfb
  have HM1 := Lib.hid h1
  have HM2 := Lib.hid h2
  have HRA := Lib.hid hRa
  have HRB := Lib.hid hRb
  have HJA : Hid (fa = true → (a.j.n ≤ 1000000 ∧ a.m.n ≤ 1000000) ∧ fewS a) := Lib.hid fun e => (by
    subst e
    have := few17_parts hfa
    exact ⟨⟨by omega, by omega⟩, few17_fewS hfa⟩)
  have HJB : Hid (fb = true → (b.j.n ≤ 1000000 ∧ b.m.n ≤ 1000000) ∧ fewS b) := Lib.hid fun e => (by
    subst e
    have := few17_parts hfb
    exact ⟨⟨by omega, by omega⟩, few17_fewS hfb⟩)
  have AL : Hid (Below w.heap.size w ((w.alloc (.cells a.cells 28)).alloc (.cells b.cells 28))) := Lib.hid (below_allocS (below_allocS (Below.refl _ _) _) _)
  clear h1 h2 hfa hfb hRa hRb
  cases fa
  · clear HJA HJB HRA HRB
    go_enter Try.func5, Try.ntmps5
    go_wp2_with fail
    refine (few17_at HFA.out (HM1.out.below AL.out)).mono ?_
    rintro e w1 ⟨rfl, hb⟩
    have ra1 : rowAt w1 w.heap.size = some (a.cells, 28) := rowKeep hb (rowPast (rowAt_alloc_at _ _ _ _ rfl))
    have rb1 : rowAt w1 (w.heap.size + 1) = some (b.cells, 28) := rowKeep hb (rowAt_alloc_at _ _ _ _ (by simp))
    have HB1 := Lib.hid (bthen AL.out hb)
    clear hb
    clear ra1 rb1 HFA HFB HM1 HM2
    go_wp2_with fail
    refine (awake17 _).mono ?_
    rintro e wz ⟨rfl, hb⟩
    have HBZ := Lib.hid (bthen HB1.out hb)
    clear hb
    go_wp2
    go_ret
    exact ⟨rfl, HBZ.out⟩
  · have HKA := Lib.hid (HJA.out rfl)
    clear HJA
    cases fb
    · clear HJB HRA HRB
      go_enter Try.func5, Try.ntmps5
      go_wp2_with fail
      refine (few17_at HFA.out (HM1.out.below AL.out)).mono ?_
      rintro e w1 ⟨rfl, hb⟩
      have ra1 : rowAt w1 w.heap.size = some (a.cells, 28) := rowKeep hb (rowPast (rowAt_alloc_at _ _ _ _ rfl))
      have rb1 : rowAt w1 (w.heap.size + 1) = some (b.cells, 28) := rowKeep hb (rowAt_alloc_at _ _ _ _ (by simp))
      have HB1 := Lib.hid (bthen AL.out hb)
      clear hb
      go_wp2_with fail
      refine (few17_at HFB.out (HM2.out.below HB1.out)).mono ?_
      rintro e w2 ⟨rfl, hb⟩
      have ra2 := rowKeep hb ra1
      have rb2 := rowKeep hb rb1
      have HB2 := Lib.hid (bthen HB1.out hb)
      clear hb ra1 rb1 HB1
      clear ra2 rb2 HFA HFB HM1 HM2
      go_wp2_with fail
      refine (awake17 _).mono ?_
      rintro e wz ⟨rfl, hb⟩
      have HBZ := Lib.hid (bthen HB2.out hb)
      clear hb
      go_wp2
      go_ret
      exact ⟨rfl, HBZ.out⟩
    · have HKB := Lib.hid (HJB.out rfl)
      clear HJB
      go_enter Try.func5, Try.ntmps5
      go_wp2_with fail
      refine (few17_at HFA.out (HM1.out.below AL.out)).mono ?_
      rintro e w1 ⟨rfl, hb⟩
      have ra1 : rowAt w1 w.heap.size = some (a.cells, 28) := rowKeep hb (rowPast (rowAt_alloc_at _ _ _ _ rfl))
      have rb1 : rowAt w1 (w.heap.size + 1) = some (b.cells, 28) := rowKeep hb (rowAt_alloc_at _ _ _ _ (by simp))
      have HB1 := Lib.hid (bthen AL.out hb)
      clear hb
      go_wp2_with fail
      refine (few17_at HFB.out (HM2.out.below HB1.out)).mono ?_
      rintro e w2 ⟨rfl, hb⟩
      have ra2 := rowKeep hb ra1
      have rb2 := rowKeep hb rb1
      have HB2 := Lib.hid (bthen HB1.out hb)
      clear hb ra1 rb1 HB1
      go_wp2_with fail
      cases Ra
      · refine (sencode_no a _ HRA.out (HM1.out.below HB2.out) HKA.out.1.1 HKA.out.1.2).mono ?_
        rintro e w3 ⟨rfl, hb⟩
        have ra3 := rowKeep hb ra2
        have rb3 := rowKeep hb rb2
        have HB3 := Lib.hid (bthen HB2.out hb)
        clear hb ra2 rb2 HB2
        go_wp2_with fail
        cases Rb
        · refine (sencode_no b _ HRB.out (HM2.out.below HB3.out) HKB.out.1.1 HKB.out.1.2).mono ?_
          rintro e w4 ⟨rfl, hb⟩
          have ra4 := rowKeep hb ra3
          have rb4 := rowKeep hb rb3
          have HB4 := Lib.hid (bthen HB3.out hb)
          clear hb ra3 rb3 HB3
          go_wp2_with fail
          go_wp2_with fail
          refine (ssame_at (sameSB_refl a) (HM1.out.below HB4.out) (HM1.out.below HB4.out)).mono ?_
          rintro e w9 ⟨rfl, hb⟩
          have HB9 := Lib.hid (bthen HB4.out hb)
          clear hb
          go_wp2_with fail
          refine (awake17 _).mono ?_
          rintro e wz ⟨rfl, hb⟩
          have HBZ := Lib.hid (bthen HB9.out hb)
          clear hb
          go_wp2
          go_ret
          exact ⟨rfl, HBZ.out⟩
        · refine (sencode_ok b _ HRB.out (HM2.out.below HB3.out) HKB.out.1.1 HKB.out.1.2).mono ?_
          rintro e w4 ⟨A2, c2, rfl, hI, hN, hlow, hXc, hb⟩
          have ra4 := rowKeep hb ra3
          have rb4 := rowKeep hb rb3
          have HB4 := Lib.hid (bthen HB3.out hb)
          have HI2 := Lib.hid hI
          clear hb ra3 rb3 HB3 hI hN hlow hXc
          obtain ⟨X2, hX⟩ : ∃ X, staW b = X := ⟨_, rfl⟩
          rw [hX] at HI2 ⊢
          have HX2 := Lib.hid hX
          clear hX
          go_wp2_with fail
          go_wp2_with fail
          refine (ssame_at (sameSB_refl a) (HM1.out.below HB4.out) (HM1.out.below HB4.out)).mono ?_
          rintro e w9 ⟨rfl, hb⟩
          have HB9 := Lib.hid (bthen HB4.out hb)
          clear hb
          go_wp2_with fail
          refine (awake17 _).mono ?_
          rintro e wz ⟨rfl, hb⟩
          have HBZ := Lib.hid (bthen HB9.out hb)
          clear hb
          go_wp2
          go_ret
          exact ⟨rfl, HBZ.out⟩
      · refine (sencode_ok a _ HRA.out (HM1.out.below HB2.out) HKA.out.1.1 HKA.out.1.2).mono ?_
        rintro e w3 ⟨A1, c1, rfl, hI, hN, hlow, hXc, hb⟩
        have ra3 := rowKeep hb ra2
        have rb3 := rowKeep hb rb2
        have HB3 := Lib.hid (bthen HB2.out hb)
        have HI1 := Lib.hid hI
        clear hb ra2 rb2 HB2 hI hN hlow hXc
        obtain ⟨X1, hX⟩ : ∃ X, staW a = X := ⟨_, rfl⟩
        rw [hX] at HI1 ⊢
        have HX1 := Lib.hid hX
        clear hX
        go_wp2_with fail
        cases Rb
        · refine (sencode_no b _ HRB.out (HM2.out.below HB3.out) HKB.out.1.1 HKB.out.1.2).mono ?_
          rintro e w4 ⟨rfl, hb⟩
          have ra4 := rowKeep hb ra3
          have rb4 := rowKeep hb rb3
          have HB4 := Lib.hid (bthen HB3.out hb)
          clear hb ra3 rb3 HB3
          go_wp2_with fail
          go_wp2_with fail
          refine (ssame_at (sameSB_refl a) (HM1.out.below HB4.out) (HM1.out.below HB4.out)).mono ?_
          rintro e w9 ⟨rfl, hb⟩
          have HB9 := Lib.hid (bthen HB4.out hb)
          clear hb
          go_wp2_with fail
          refine (awake17 _).mono ?_
          rintro e wz ⟨rfl, hb⟩
          have HBZ := Lib.hid (bthen HB9.out hb)
          clear hb
          go_wp2
          go_ret
          exact ⟨rfl, HBZ.out⟩
        · refine (sencode_ok b _ HRB.out (HM2.out.below HB3.out) HKB.out.1.1 HKB.out.1.2).mono ?_
          rintro e w4 ⟨A2, c2, rfl, hI, hN, hlow, hXc, hb⟩
          have ra4 := rowKeep hb ra3
          have rb4 := rowKeep hb rb3
          have HB4 := Lib.hid (bthen HB3.out hb)
          have HI2 := Lib.hid hI
          have HI1q := Lib.hid (HI1.out.below hb)
          clear HI1
          have HI1 := HI1q
          clear HI1q
          clear hb ra3 rb3 HB3 hI hN hlow hXc
          obtain ⟨X2, hX⟩ : ∃ X, staW b = X := ⟨_, rfl⟩
          rw [hX] at HI2 ⊢
          have HX2 := Lib.hid hX
          clear hX
          go_wp2_with fail
          refine (scopy_ok a w4 (HM1.out.below HB4.out) HKA.out.2).mono ?_
          rintro e w5 ⟨t, rfl, ht, hb⟩
          have ra5 := rowKeep hb ra4
          have rb5 := rowKeep hb rb4
          have HB5 := Lib.hid (bthen HB4.out hb)
          have HI15 := Lib.hid (HI1.out.below hb)
          have HI25 := Lib.hid (HI2.out.below hb)
          have HT := Lib.hid ht
          clear hb ht ra4 rb4 HB4 HI1 HI2
          go_wp2_with fail
          refine (scopy_ok t w5 (HT.out.ok HM1.out.big) (HT.out.few HKA.out.2)).mono ?_
          rintro e w6 ⟨u, rfl, hu, hb⟩
          have ra6 := rowKeep hb ra5
          have rb6 := rowKeep hb rb5
          have HB6 := Lib.hid (bthen HB5.out hb)
          have HI16 := Lib.hid (HI15.out.below hb)
          have HI26 := Lib.hid (HI25.out.below hb)
          have HSU := Lib.hid (HT.out.same2 hu)
          have HUK := Lib.hid (hu.ok (HT.out.names HM1.out.big))
          have HUN := Lib.hid (hu.names (HT.out.names HM1.out.big))
          have HUF := Lib.hid (hu.few (HT.out.few HKA.out.2))
          clear hb hu ra5 rb5 HB5 HI15 HI25 HT
          go_upto_region 8 with fail
          obtain ⟨p, hp⟩ : ∃ p, w6.heap.size = p := ⟨_, rfl⟩
          have hal : Below w6.heap.size w6 (w6.alloc (.cells u.cells 28)) := (Below.refl _ _).alloc (Nat.le_refl _) _
          have ra7 := rowKeep hal ra6
          have rb7 := rowKeep hal rb6
          have rp7 : rowAt (w6.alloc (.cells u.cells 28)) p = some (u.cells, 28) := rowAt_alloc_at _ _ _ _ hp.symm
          have hb7 := bthen HB6.out hal
          have hi17 := HI16.out.below hal
          have hi27 := HI26.out.below hal
          have huk7 := HUK.out.below hal
          rw [hp]
          clear hal ra6 rb6 HB6 HI16 HI26 HUK hp
          generalize w6.alloc (.cells u.cells 28) = W7 at *
          have HB7 := Lib.hid hb7
          have HI17 := Lib.hid hi17
          have HI27 := Lib.hid hi27
          have HUK7 := Lib.hid huk7
          clear hb7 hi17 hi27 huk7
          go_wp2_with fail
          refine (scopy_ok u W7 HUK7.out HUF.out).mono ?_
          rintro e w8 ⟨c, rfl, hc, hb⟩
          have hm0 := Mut.start hc hb
          have HCF := Lib.hid (hc.few HUF.out)
          have hcn : c.f.n ≤ 1000 := HCF.out.1.1
          obtain ⟨q, hq⟩ : ∃ q, w8.heap.size = q := ⟨_, rfl⟩
          rw [hq] at hm0
          go_upto_region 9 with fail
          clear hq hb hc
          generalize w8.alloc (.cells c.cells 28) = W9 at *
          have HM0 := Lib.hid hm0
          have rq := hm0.row
          have hz := fun i => cell_of_rowAt rq i
          clear hm0
          go_wp2_with fail
          go_loopw [52] (fun i wx => ∃ k : Nat, k ≤ c.f.n ∧ i = .int .i64 k ∧ Mut W7 wx q c) (fun i _ => c.f.n - (intOf i).toNat)
          case atStart => exact ⟨0, Nat.zero_le _, rfl, HM0.out⟩
          case round =>
            rename World => wr
            obtain ⟨k, hk, rfl, hm⟩ := hrel
            have HM := Lib.hid hm
            clear hz rq HM0
            have rq := hm.row
            have hz := fun i => cell_of_rowAt rq i
            by_cases hlt : k < c.f.n
            · obtain ⟨g, cs, v, hA, hlg, hrg, hc2, hc586⟩ := hm.fr k hlt
              have z10 : wr.cell? ⟨q, 10, none⟩ = some (.slice (some ⟨g, 0, none⟩) c.f.n c.f.c) := by rw [hz, Sta.get10, hA]
              have z2 : wr.cell? ⟨g, k * 587 + 2, none⟩ = some (.int .i64 v) := by rw [cell_of_rowAt hrg]; exact hc2
              have f2 := frozen_of_rowAt hrg
              clear hz hm rq
              go_upto_region 13 with fail
              have hm1 : Mut W7 (wr.setCell ⟨g, k * 587 + 2, none⟩ (.int .i64 (wrap64 (v + 1)))) q c := HM.out.set hrg hlg (.inl ⟨rfl, k, rfl⟩)
              generalize wr.setCell ⟨g, k * 587 + 2, none⟩ (.int .i64 (wrap64 (v + 1))) = W1 at *
              clear hA hlg hrg hc2 hc586 z10 z2 f2 HM
              have HM1 := Lib.hid hm1
              obtain ⟨g, cs, v, hA, hlg, hrg, hc2, hc586⟩ := hm1.fr k hlt
              have z10 : W1.cell? ⟨q, 10, none⟩ = some (.slice (some ⟨g, 0, none⟩) c.f.n c.f.c) := by rw [cell_of_rowAt hm1.row, Sta.get10, hA]
              have z5 : W1.cell? ⟨g, k * 587 + 586, none⟩ = some (.slice (c.f.l k).hA (c.f.l k).hn (c.f.l k).hc) := by rw [cell_of_rowAt hrg]; exact hc586
              clear hA hlg hrg hc2 hc586 hm1
              obtain ⟨m, hmn⟩ : ∃ m, (c.f.l k).hn = m := ⟨_, rfl⟩
              rw [hmn] at z5
              have hml : m ≤ 1000000 := hmn ▸ HCF.out.1.2 k hlt
              have HMN := Lib.hid hmn
              clear hmn
              go_wp2_with fail
              clear z10 z5
              go_loopw [71] (fun j wx => ∃ x : Nat, x ≤ m ∧ j = .int .i64 x ∧ Mut W7 wx q c) (fun j _ => m - (intOf j).toNat)
              case atStart => exact ⟨0, Nat.zero_le _, rfl, HM1.out⟩
              case round =>
                rename World => wi
                obtain ⟨x, hx, rfl, hm2⟩ := hrel
                have HM2 := Lib.hid hm2
                clear HM1
                by_cases hlx : x < m
                · obtain ⟨g, cs, v, hA, hlg, hrg, hc2, hc586⟩ := hm2.fr k hlt
                  obtain ⟨bb, o, cs2, v2, hB, hlb, hrb, hd2⟩ := hm2.hr k hlt x (by rw [HMN.out]; exact hlx)
                  have z10 : wi.cell? ⟨q, 10, none⟩ = some (.slice (some ⟨g, 0, none⟩) c.f.n c.f.c) := by rw [cell_of_rowAt hm2.row, Sta.get10, hA]
                  have z5 : wi.cell? ⟨g, k * 587 + 586, none⟩ = some (.slice (some ⟨bb, o, none⟩) m (c.f.l k).hc) := by rw [cell_of_rowAt hrg, ← HMN.out, ← hB]; exact hc586
                  have z7 : wi.cell? ⟨bb, o + x * 5 + 2, none⟩ = some (.int .i64 v2) := by rw [cell_of_rowAt hrb]; exact hd2
                  have f2 := frozen_of_rowAt hrb
                  have hst : ∀ y : Int, Mut W7 (wi.setCell ⟨bb, o + x * 5 + 2, none⟩ (.int .i64 y)) q c := fun y => hm2.set hrb hlb (.inr rfl)
                  have HST := Lib.hid hst
                  clear hA hlg hrg hc2 hc586 hB hlb hrb hd2 hm2 hst
                  go_wp2_with fail
                  go_roundw
                  case rel => exact ⟨x + 1, by omega, by go_num, HST.out _⟩
                  case measure => simp [intOf]; omega
                · go_wp2_with fail
                  go_roundw
                  case rel => exact ⟨k + 1, by omega, by go_num, HM2.out⟩
                  case measure => simp [intOf]; omega
            · clear hz hm rq
              have ra8 := rowKeep HM.out.bel ra7
              have rb8 := rowKeep HM.out.bel rb7
              have rp8 := rowKeep HM.out.bel rp7
              have HB8 : Hid (Below W7.heap.size W7 wr) := Lib.hid HM.out.bel
              obtain ⟨RS, hRS⟩ : ∃ R, sameSB a b = R := ⟨_, rfl⟩
              have hE : ((strT X1).toList == (strT X2).toList) = RS := by rw [strT_toList, strT_toList, ← hRS, ← bytes_same HRA.out HRB.out, HX1.out, HX2.out]; by_cases h : X1 = X2 <;> simp [h]
              have HRS := Lib.hid hRS
              clear hRS HM
              go_upto_region 19 with fail
              refine wp_region_late_drew (lt := []) (S := fun w' : World => rowAt w' w.heap.size = some (a.cells, 28) ∧ rowAt w' (w.heap.size + 1) = some (b.cells, 28) ∧ rowAt w' p = some (u.cells, 28) ∧ Hid (Below W7.heap.size W7 w')) (by kernel_rfl) ⟨ra8, rb8, rp8, Lib.hid HB8.out.drew⟩ (fun hS => ?_)
              generalize wr.drew = W8 at *
              refine late_take (i := 0) (lt := []) (rd := [0, 1, 3, 4, 5, 6, 7, 8, 9, 10, 11, 13, 14, 16, 17]) (by simp only [List.getElem?_toArray, List.getElem?_cons_succ, List.getElem?_cons_zero]; rfl) (by decide +kernel) (by decide +kernel) (by decide +kernel) (by decide +kernel) (by decide +kernel) (by exact fun _ _ _ _ h => h) hS (by rfl) ?_
              apply Exists.intro
              refine ⟨fun w' hSw => ?_, ?_⟩
              · go_simp
                with_reducible rfl
              (try simp only [act_put, act_put_none, List.set_cons_zero, List.set_cons_succ])
              refine late_take (i := 1) (lt := []) (rd := [0, 1, 3, 4, 5, 6, 7, 8, 9, 10, 11, 13, 14, 16, 17]) (by simp only [List.getElem?_toArray, List.getElem?_cons_succ, List.getElem?_cons_zero]; rfl) (by decide +kernel) (by decide +kernel) (by decide +kernel) (by decide +kernel) (by decide +kernel) (by exact fun _ _ _ _ h => h) hS (by rfl) ?_
              apply Exists.intro
              refine ⟨fun w' hSw => ?_, ?_⟩
              · go_simp
                with_reducible rfl
              (try simp only [act_put, act_put_none, List.set_cons_zero, List.set_cons_succ])
              refine late_take (i := 3) (lt := []) (rd := [0, 1, 3, 4, 5, 6, 7, 8, 9, 10, 11, 13, 14, 16, 17]) (by simp only [List.getElem?_toArray, List.getElem?_cons_succ, List.getElem?_cons_zero]; rfl) (by decide +kernel) (by decide +kernel) (by decide +kernel) (by decide +kernel) (by decide +kernel) (by exact fun _ _ _ _ h => h) hS (by rfl) ?_
              apply Exists.intro
              refine ⟨fun w' hSw => ?_, ?_⟩
              · go_simp
                with_reducible rfl
              (try simp only [act_put, act_put_none, List.set_cons_zero, List.set_cons_succ])
              refine late_take (i := 4) (lt := []) (rd := [0, 1, 3, 4, 5, 6, 7, 8, 9, 10, 11, 13, 14, 16, 17]) (by simp only [List.getElem?_toArray, List.getElem?_cons_succ, List.getElem?_cons_zero]; rfl) (by decide +kernel) (by decide +kernel) (by decide +kernel) (by decide +kernel) (by decide +kernel) (by exact fun _ _ _ _ h => h) hS (by rfl) ?_
              apply Exists.intro
              refine ⟨fun w' hSw => ?_, ?_⟩
              · have q1 : ∀ c, (convert 29 9 (.slice A1 X1.length c)).run Try.prog w' = .ok (.string (strT X1)) w' := fun c => conv_bytes (HI17.out.below hSw.2.2.2.out)
                go_simp
                with_reducible rfl
              (try simp only [act_put, act_put_none, List.set_cons_zero, List.set_cons_succ])
              refine late_take (i := 5) (lt := []) (rd := [0, 1, 3, 4, 5, 6, 7, 8, 9, 10, 11, 13, 14, 16, 17]) (by simp only [List.getElem?_toArray, List.getElem?_cons_succ, List.getElem?_cons_zero]; rfl) (by decide +kernel) (by decide +kernel) (by decide +kernel) (by decide +kernel) (by decide +kernel) (by exact fun _ _ _ _ h => h) hS (by rfl) ?_
              apply Exists.intro
              refine ⟨fun w' hSw => ?_, ?_⟩
              · go_simp
                with_reducible rfl
              (try simp only [act_put, act_put_none, List.set_cons_zero, List.set_cons_succ])
              refine late_take (i := 6) (lt := []) (rd := [0, 1, 3, 4, 5, 6, 7, 8, 9, 10, 11, 13, 14, 16, 17]) (by simp only [List.getElem?_toArray, List.getElem?_cons_succ, List.getElem?_cons_zero]; rfl) (by decide +kernel) (by decide +kernel) (by decide +kernel) (by decide +kernel) (by decide +kernel) (by exact fun _ _ _ _ h => h) hS (by rfl) ?_
              apply Exists.intro
              refine ⟨fun w' hSw => ?_, ?_⟩
              · have q1 : ∀ c, (convert 29 9 (.slice A2 X2.length c)).run Try.prog w' = .ok (.string (strT X2)) w' := fun c => conv_bytes (HI27.out.below hSw.2.2.2.out)
                go_simp
                with_reducible rfl
              (try simp only [act_put, act_put_none, List.set_cons_zero, List.set_cons_succ])
              refine late_take (i := 7) (lt := []) (rd := [0, 1, 3, 4, 5, 6, 7, 8, 9, 10, 11, 13, 14, 16, 17]) (by simp only [List.getElem?_toArray, List.getElem?_cons_succ, List.getElem?_cons_zero]; rfl) (by decide +kernel) (by decide +kernel) (by decide +kernel) (by decide +kernel) (by decide +kernel) (by exact fun _ _ _ _ h => h) hS (by rfl) ?_
              apply Exists.intro
              refine ⟨fun w' hSw => ?_, ?_⟩
              · go_simp
                with_reducible rfl
              (try simp only [act_put, act_put_none, List.set_cons_zero, List.set_cons_succ])
              refine wpAnyR_ready (rs := [2]) (by decide +kernel) (by simp) ?_
              refine AllReadyR.cons (i := 2) (by simp only [List.getElem?_toArray, List.getElem?_cons_succ, List.getElem?_cons_zero]; rfl) (fun K hK => ?_) ?_
              · go_simp
                go_at_call 10
                refine (ssame_at HRS.out ((HM1.out.below HB7.out).below hS.2.2.2.out) ((HM2.out.below HB7.out).below hS.2.2.2.out)).mono ?_
                rintro e w10 ⟨rfl, hb⟩
                go_simp
                refine hK.out _ _ ⟨rowKeep hb hS.1, rowKeep hb hS.2.1, rowKeep hb hS.2.2.1, Lib.hid (bthen hS.2.2.2.out hb)⟩ (fun hS2 => ?_)
                clear hS hK K hb
                have hS := hS2
                clear hS2
                (try simp only [act_put, act_put_none, List.set_cons_zero, List.set_cons_succ])
                refine late_take (i := 8) (lt := []) (rd := [0, 1, 3, 4, 5, 6, 7, 8, 9, 10, 11, 13, 14, 16, 17]) (by simp only [List.getElem?_toArray, List.getElem?_cons_succ, List.getElem?_cons_zero]; rfl) (by decide +kernel) (by decide +kernel) (by decide +kernel) (by decide +kernel) (by decide +kernel) (by exact fun _ _ _ _ h => h) hS (by rfl) ?_
                apply Exists.intro
                refine ⟨fun w' hSw => ?_, ?_⟩
                · go_simp
                  with_reducible rfl
                (try simp only [act_put, act_put_none, List.set_cons_zero, List.set_cons_succ])
                refine late_take (i := 9) (lt := []) (rd := [0, 1, 3, 4, 5, 6, 7, 8, 9, 10, 11, 13, 14, 16, 17]) (by simp only [List.getElem?_toArray, List.getElem?_cons_succ, List.getElem?_cons_zero]; rfl) (by decide +kernel) (by decide +kernel) (by decide +kernel) (by decide +kernel) (by decide +kernel) (by exact fun _ _ _ _ h => h) hS (by rfl) ?_
                apply Exists.intro
                refine ⟨fun w' hSw => ?_, ?_⟩
                · go_simp
                  with_reducible rfl
                (try simp only [act_put, act_put_none, List.set_cons_zero, List.set_cons_succ])
                refine late_take (i := 10) (lt := []) (rd := [0, 1, 3, 4, 5, 6, 7, 8, 9, 10, 11, 13, 14, 16, 17]) (by simp only [List.getElem?_toArray, List.getElem?_cons_succ, List.getElem?_cons_zero]; rfl) (by decide +kernel) (by decide +kernel) (by decide +kernel) (by decide +kernel) (by decide +kernel) (by exact fun _ _ _ _ h => h) hS (by rfl) ?_
                apply Exists.intro
                refine ⟨fun w' hSw => ?_, ?_⟩
                · go_simp
                  with_reducible rfl
                (try simp only [act_put, act_put_none, List.set_cons_zero, List.set_cons_succ])
                refine late_take (i := 11) (lt := []) (rd := [0, 1, 3, 4, 5, 6, 7, 8, 9, 10, 11, 13, 14, 16, 17]) (by simp only [List.getElem?_toArray, List.getElem?_cons_succ, List.getElem?_cons_zero]; rfl) (by decide +kernel) (by decide +kernel) (by decide +kernel) (by decide +kernel) (by decide +kernel) (by exact fun _ _ _ _ h => h) hS (by rfl) ?_
                apply Exists.intro
                refine ⟨fun w' hSw => ?_, ?_⟩
                · go_simp
                  with_reducible rfl
                (try simp only [act_put, act_put_none, List.set_cons_zero, List.set_cons_succ])
                refine wpAnyR_ready (rs := [12]) (by decide +kernel) (by simp) ?_
                refine AllReadyR.cons (i := 12) (by simp only [List.getElem?_toArray, List.getElem?_cons_succ, List.getElem?_cons_zero]; rfl) (fun K hK => ?_) ?_
                · go_simp
                  go_at_call 10
                  refine (ssame_at HSU.out (HUK7.out.below hS.2.2.2.out) ((HM1.out.below HB7.out).below hS.2.2.2.out)).mono ?_
                  rintro e w11 ⟨rfl, hb⟩
                  go_simp
                  refine hK.out _ _ ⟨rowKeep hb hS.1, rowKeep hb hS.2.1, rowKeep hb hS.2.2.1, Lib.hid (bthen hS.2.2.2.out hb)⟩ (fun hS2 => ?_)
                  clear hS hK K hb
                  have hS := hS2
                  clear hS2
                  (try simp only [act_put, act_put_none, List.set_cons_zero, List.set_cons_succ])
                  refine late_take (i := 13) (lt := []) (rd := [0, 1, 3, 4, 5, 6, 7, 8, 9, 10, 11, 13, 14, 16, 17]) (by simp only [List.getElem?_toArray, List.getElem?_cons_succ, List.getElem?_cons_zero]; rfl) (by decide +kernel) (by decide +kernel) (by decide +kernel) (by decide +kernel) (by decide +kernel) (by exact fun _ _ _ _ h => h) hS (by rfl) ?_
                  apply Exists.intro
                  refine ⟨fun w' hSw => ?_, ?_⟩
                  · go_simp
                    with_reducible rfl
                  (try simp only [act_put, act_put_none, List.set_cons_zero, List.set_cons_succ])
                  refine late_take (i := 14) (lt := []) (rd := [0, 1, 3, 4, 5, 6, 7, 8, 9, 10, 11, 13, 14, 16, 17]) (by simp only [List.getElem?_toArray, List.getElem?_cons_succ, List.getElem?_cons_zero]; rfl) (by decide +kernel) (by decide +kernel) (by decide +kernel) (by decide +kernel) (by decide +kernel) (by exact fun _ _ _ _ h => h) hS (by rfl) ?_
                  apply Exists.intro
                  refine ⟨fun w' hSw => ?_, ?_⟩
                  · go_simp
                    with_reducible rfl
                  (try simp only [act_put, act_put_none, List.set_cons_zero, List.set_cons_succ])
                  refine wpAnyR_ready (rs := [15]) (by decide +kernel) (by simp) ?_
                  refine AllReadyR.cons (i := 15) (by simp only [List.getElem?_toArray, List.getElem?_cons_succ, List.getElem?_cons_zero]; rfl) (fun K hK => ?_) ?_
                  · go_simp
                    go_at_call 7
                    refine (awake17 _).mono ?_
                    rintro e w12 ⟨rfl, hb⟩
                    go_simp
                    refine hK.out _ _ ⟨rowKeep hb hS.1, rowKeep hb hS.2.1, rowKeep hb hS.2.2.1, Lib.hid (bthen hS.2.2.2.out hb)⟩ (fun hS2 => ?_)
                    clear hS hK K hb
                    have hS := hS2
                    clear hS2
                    (try simp only [act_put, act_put_none, List.set_cons_zero, List.set_cons_succ])
                    refine late_take (i := 16) (lt := []) (rd := [0, 1, 3, 4, 5, 6, 7, 8, 9, 10, 11, 13, 14, 16, 17]) (by simp only [List.getElem?_toArray, List.getElem?_cons_succ, List.getElem?_cons_zero]; rfl) (by decide +kernel) (by decide +kernel) (by decide +kernel) (by decide +kernel) (by decide +kernel) (by exact fun _ _ _ _ h => h) hS (by rfl) ?_
                    apply Exists.intro
                    refine ⟨fun w' hSw => ?_, ?_⟩
                    · go_simp
                      with_reducible rfl
                    (try simp only [act_put, act_put_none, List.set_cons_zero, List.set_cons_succ])
                    refine late_take (i := 17) (lt := []) (rd := [0, 1, 3, 4, 5, 6, 7, 8, 9, 10, 11, 13, 14, 16, 17]) (by simp only [List.getElem?_toArray, List.getElem?_cons_succ, List.getElem?_cons_zero]; rfl) (by decide +kernel) (by decide +kernel) (by decide +kernel) (by decide +kernel) (by decide +kernel) (by exact fun _ _ _ _ h => h) hS (by rfl) ?_
                    apply Exists.intro
                    refine ⟨fun w' hSw => ?_, ?_⟩
                    · go_simp
                      with_reducible rfl
                    (try simp only [act_put, act_put_none, List.set_cons_zero, List.set_cons_succ])
                    refine wpAnyR_done (by decide +kernel) ?_ _
                    have HBE := Lib.hid (bthen HB7.out hS.2.2.2.out)
                    clear hS
                    go_wp2_with fail
                    go_ret
                    exact ⟨rfl, HBE.out⟩
                  exact AllReadyR.nil
                exact AllReadyR.nil
              exact AllReadyR.nil
end Go.Proofs.Ytinhaipnmmgplaa
