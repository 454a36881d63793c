/-
  Layer 17 (state): the walk of StateCuts.
-/
import Derived.Test.YtinhaipnmmgplaaZGP
import Derived.Test.YtinhaipnmmgplaaZStateBackWalk
namespace Go.Proofs.Ytinhaipnmmgplaa
set_option maxRecDepth 20000
open Go.RowKit
set_option linter.unusedSimpArgs false
set_option linter.unusedVariables false
attribute [local go_sem] rowCells rowAt_drewN get_ints getE_ints set_ints size_ints rowAt_alloc rowAt_drew setRow_alloc setRow_drewN setRow_drew setCell_alloc setCell_drewN splice_upd splice_put splice_all load_vec_cut load_vecs_cut load_rights_cut load_counter store_vec store_rights store_counter eql_vec neq_vec index_vec eql_rights neq_rights eql_counter index_vecs cut_ints sub_zero
attribute [local go_sem ↓] xload_vec xstore_vec xalloc_vec xeql_vec xneq_vec xindex_vec xbuild_vec0 xload_rights xstore_rights xalloc_rights xeql_rights xneq_rights xbuild_rights0 xload_vecs xindex_vecs xload_counter xstore_counter xalloc_counter xbuild_counter0 xeql_counter xbuild_counter3
attribute [local go_sem] rowAt_setRow rowAt_setCell load_vec_cut_later load_rights_later load_counter_later Later.cell Later.frozen build3_ints
attribute [local go_sem ↓] xload_field xstore_field xalloc_field xload_lock
attribute [local go_sem] load_field load_field_later store_field load_counter_cut load_lock_cut load_lock_later Fld.size Fld.get0 Fld.get1 Fld.get2 Fld.get586 Fld.getE0 Fld.getE1 Fld.getE2 Fld.getE586 Fld.cut_cnt Fld.cut_lock Fld.cut_all Fld.splice_all strT_size

attribute [local go_sem ↓] xload_hold xstore_hold xalloc_hold
attribute [local go_sem] load_hold load_hold_later store_hold
attribute [local go_sem ↓] xbuild_lock0 xeql_lock xneq_lock xneq_counter
attribute [local go_sem] eql_lock neq_lock neq_counter

attribute [local go_sem] zero_field
attribute [local go_sem] resC_size resC_all resC_splice resC_set0 resC_set1 Fld.set2 Fld.set586
attribute [local go_sem ↓] xbuildS_field
attribute [local go_sem] buildSF_agg
attribute [local go_sem ↓] xstore_sta xload_sta xalloc_sta xbuild_sta0 xstore_bar xload_bar xalloc_bar xbuild_bar0 xstore_plan xload_plan xalloc_plan xbuild_plan0
attribute [local go_sem] load_sta load_sta_later store_sta load_bar load_bar_later store_bar load_plan load_plan_later store_plan
attribute [local go_sem] Sta.size Sta.bsize Pl.size Sta.cut_all Sta.cut_p Sta.cut_bar Sta.cut_bp Sta.bcut_all Sta.bcut_p Pl.cut_all Sta.splice_all Sta.bsplice_all Pl.splice_all Sta.splice_bar
attribute [local go_sem] Sta.get0 Sta.getE0 Sta.set0 Sta.get1 Sta.getE1 Sta.set1 Sta.get2 Sta.getE2 Sta.set2 Sta.get3 Sta.getE3 Sta.set3 Sta.get4 Sta.getE4 Sta.set4 Sta.get5 Sta.getE5 Sta.set5 Sta.get6 Sta.getE6 Sta.set6 Sta.get7 Sta.getE7 Sta.set7 Sta.get8 Sta.getE8 Sta.set8 Sta.get9 Sta.getE9 Sta.set9 Sta.get10 Sta.getE10 Sta.set10 Sta.get11 Sta.getE11 Sta.set11 Sta.get12 Sta.getE12 Sta.set12 Sta.get13 Sta.getE13 Sta.set13 Sta.get14 Sta.getE14 Sta.set14 Sta.get15 Sta.getE15 Sta.set15 Sta.get16 Sta.getE16 Sta.set16 Sta.get17 Sta.getE17 Sta.set17 Sta.get18 Sta.getE18 Sta.set18 Sta.get19 Sta.getE19 Sta.set19 Sta.get20 Sta.getE20 Sta.set20 Sta.get21 Sta.getE21 Sta.set21 Sta.get22 Sta.getE22 Sta.set22 Sta.get23 Sta.getE23 Sta.set23 Sta.get24 Sta.getE24 Sta.set24
attribute [local go_sem] Sta.bget0 Sta.bgetE0 Sta.bget1 Sta.bgetE1 Sta.bget2 Sta.bgetE2 Sta.bget3 Sta.bgetE3 Sta.bget4 Sta.bgetE4 Sta.bget5 Sta.bgetE5 Sta.bget6 Sta.bgetE6 Sta.bget7 Sta.bgetE7 Sta.bget8 Sta.bgetE8 Sta.bget9 Sta.bgetE9 Sta.bget10 Sta.bgetE10 Sta.bget11 Sta.bgetE11 Sta.bget12 Sta.bgetE12 Sta.bget13 Sta.bgetE13 Pl.get0 Pl.getE0 Pl.get1 Pl.getE1 Pl.get2 Pl.getE2 Pl.get3 Pl.getE3 Pl.get4 Pl.getE4
set_option maxHeartbeats 4000000 in
theorem stateCuts_walk (s : Sta) (cut : Int) (hcut : -9223372036854775808 ≤ cut ∧ cut ≤ 9223372036854775807) (A2 : Option Addr) (c2 : Nat) (l2 : List UInt8) (hm : l2.length ≤ 9223372036854775807 ∧ (A2 = none → c2 = 0 ∧ l2 = []) ∧ l2.length ≤ c2) (w : World) (h : StaOk w s) (hl : IsBy w A2 l2) :
    Calls Try.prog 3 #[.agg s.cells, .int .i64 cut, .slice A2 l2.length c2] w fun e w' => e = .returned (.bool true) ∧ Below w.heap.size w w' := by
  obtain ⟨b, hb⟩ : ∃ b, few17 s = b := ⟨_, rfl⟩
  obtain ⟨R, hR⟩ : ∃ R, rightS s = R := ⟨_, rfl⟩
  have HF := Lib.hid (few17_at hb (h.below ((Below.refl w.heap.size w).alloc (Nat.le_refl _) (.cells s.cells 28))))
  have HJM : Hid (b = true → (s.j.n ≤ 1000000 ∧ s.m.n ≤ 1000000) ∧ fewS s) := Lib.hid fun e => (by
    subst e
    have := few17_parts hb
    exact ⟨⟨by omega, by omega⟩, few17_fewS hb⟩)
  have HM := Lib.hid h
  have HL := Lib.hid hl
  have HR := Lib.hid hR
  have HLM := Lib.hid hm
  have hl63 := hm.1
  clear h hb hR hl hm
  cases b
  · clear HR HLM HJM
    go_enter Try.func3, Try.ntmps3
    go_wp2_with fail
    refine HF.out.mono ?_
    rintro e w1 ⟨rfl, hb⟩
    have r1 : rowAt w1 w.heap.size = some (s.cells, 28) := rowKeep hb (rowAt_alloc_at _ _ _ _ rfl)
    have HB1 := Lib.hid (bthen (below_allocS (Below.refl _ _) _) hb)
    have HO1 := Lib.hid (HM.out.below HB1.out)
    have HL1 := Lib.hid (HL.out.below HB1.out)
    clear hb HF HM HL
    clear r1
    go_wp2_with fail
    refine (awake17 _).mono ?_
    rintro e wz ⟨rfl, hb⟩
    have HBZ := Lib.hid (bthen HB1.out hb)
    clear hb
    go_wp2
    go_ret
    exact ⟨rfl, HBZ.out⟩
  · have HJK := Lib.hid (HJM.out rfl)
    clear HJM
    by_cases hA : l2.length < 1
    · have g1 : decide ((l2.length : Int) < 1) = true := decide_eq_true (by omega)
      have g2 : decide (l2.length < 1) = true := decide_eq_true hA
      clear HR HLM
      go_enter Try.func3, Try.ntmps3
      go_wp2_with fail
      refine HF.out.mono ?_
      rintro e w1 ⟨rfl, hb⟩
      have r1 : rowAt w1 w.heap.size = some (s.cells, 28) := rowKeep hb (rowAt_alloc_at _ _ _ _ rfl)
      have HB1 := Lib.hid (bthen (below_allocS (Below.refl _ _) _) hb)
      have HO1 := Lib.hid (HM.out.below HB1.out)
      have HL1 := Lib.hid (HL.out.below HB1.out)
      clear hb HF HM HL
      clear r1
      go_wp2_with fail
      refine (awake17 _).mono ?_
      rintro e wz ⟨rfl, hb⟩
      have HBZ := Lib.hid (bthen HB1.out hb)
      clear hb
      go_wp2
      go_ret
      exact ⟨rfl, HBZ.out⟩
    · have g1 : decide ((l2.length : Int) < 1) = false := decide_eq_false (by omega)
      have g2 : decide (l2.length < 1) = false := decide_eq_false hA
      by_cases hB : 20 < l2.length
      · have g3 : decide ((20 : Int) < (l2.length : Int)) = true := decide_eq_true (by omega)
        have g4 : decide (20 < l2.length) = true := decide_eq_true hB
        clear HR HLM
        go_enter Try.func3, Try.ntmps3
        go_wp2_with fail
        refine HF.out.mono ?_
        rintro e w1 ⟨rfl, hb⟩
        have r1 : rowAt w1 w.heap.size = some (s.cells, 28) := rowKeep hb (rowAt_alloc_at _ _ _ _ rfl)
        have HB1 := Lib.hid (bthen (below_allocS (Below.refl _ _) _) hb)
        have HO1 := Lib.hid (HM.out.below HB1.out)
        have HL1 := Lib.hid (HL.out.below HB1.out)
        clear hb HF HM HL
        clear r1
        go_wp2_with fail
        refine (awake17 _).mono ?_
        rintro e wz ⟨rfl, hb⟩
        have HBZ := Lib.hid (bthen HB1.out hb)
        clear hb
        go_wp2
        go_ret
        exact ⟨rfl, HBZ.out⟩
      · have g3 : decide ((20 : Int) < (l2.length : Int)) = false := decide_eq_false (by omega)
        have g4 : decide (20 < l2.length) = false := decide_eq_false hB
        go_enter Try.func3, Try.ntmps3
        go_wp2_with fail
        refine HF.out.mono ?_
        rintro e w1 ⟨rfl, hb⟩
        have r1 : rowAt w1 w.heap.size = some (s.cells, 28) := rowKeep hb (rowAt_alloc_at _ _ _ _ rfl)
        have HB1 := Lib.hid (bthen (below_allocS (Below.refl _ _) _) hb)
        have HO1 := Lib.hid (HM.out.below HB1.out)
        have HL1 := Lib.hid (HL.out.below HB1.out)
        clear hb HF HL
        go_wp2_with fail
        cases R
        · refine (sencode_no s _ HR.out HO1.out HJK.out.1.1 HJK.out.1.2).mono ?_
          rintro e w2 ⟨rfl, hb⟩
          have HB2 := Lib.hid (bthen HB1.out hb)
          clear hb r1
          go_wp2_with fail
          refine (awake17 _).mono ?_
          rintro e wz ⟨rfl, hb⟩
          have HBZ := Lib.hid (bthen HB2.out hb)
          clear hb
          go_wp2
          go_ret
          exact ⟨rfl, HBZ.out⟩
        · refine (sencode_ok s _ HR.out HO1.out HJK.out.1.1 HJK.out.1.2).mono ?_
          rintro e w2 ⟨A, c, rfl, hI, hN, -, hXc, hb⟩
          have HB2 := Lib.hid (bthen HB1.out hb)
          have HI := Lib.hid hI
          have HN := Lib.hid hN
          have HL2 := Lib.hid (HL1.out.below hb)
          have hXl := staW_len HR.out
          clear hb r1 hI hN HB1 HO1 HL1
          obtain ⟨X, hX⟩ : ∃ X, staW s = X := ⟨_, rfl⟩
          rw [hX] at HI hXc hXl ⊢
          have HX := Lib.hid hX
          clear hX
          by_cases hC : cut < 0
          · have g5 : decide (cut < 0) = true := decide_eq_true hC
            go_wp2_with fail
            refine (awake17 _).mono ?_
            rintro e wz ⟨rfl, hb⟩
            have HBZ := Lib.hid (bthen HB2.out hb)
            clear hb
            go_wp2
            go_ret
            exact ⟨rfl, HBZ.out⟩
          · have g5 : decide (cut < 0) = false := decide_eq_false hC
            by_cases hD : (X.length : Int) ≤ cut
            · have g6 : decide ((X.length : Int) ≤ cut) = true := decide_eq_true hD
              go_wp2_with fail
              refine (awake17 _).mono ?_
              rintro e wz ⟨rfl, hb⟩
              have HBZ := Lib.hid (bthen HB2.out hb)
              clear hb
              go_wp2
              go_ret
              exact ⟨rfl, HBZ.out⟩
            · have g6 : decide ((X.length : Int) ≤ cut) = false := decide_eq_false hD
              obtain ⟨n, rfl⟩ := Int.eq_ofNat_of_zero_le (show 0 ≤ cut by omega)
              have hnl : n < X.length := by omega
              have hnc : n ≤ c := by omega
              have HT := Lib.hid (HI.out.take n)
              have htl : (X.take n).length = n := by rw [List.length_take]; omega
              have HD1 : Hid (∀ (w' : World), IsBy w' A (X.take n) → Calls Try.prog 9 #[.slice A n c] w' (SDec w' true [] s)) := Lib.hid (fun w' hi => by
                have := sdecode_ok s A c (X.take n) [] true w' HR.out HJK.out.1 HM.out.big hi HN.out (by rw [htl]; omega) ⟨n, by rw [HX.out]; exact hnl, by rw [HX.out]⟩
                rwa [htl] at this)
              clear htl
              go_wp2_with (refine bytes_slice_to rfl _ _ rfl A X.length c n rfl rfl hnc ?_)
              refine (HD1.out _ HT.out).mono ?_
              rintro x w3 ⟨hb, hx, -, -⟩
              rw [hx rfl]
              have HB3 := Lib.hid (bthen HB2.out hb)
              have HB3z := HB3.out.size
              have HI3 := Lib.hid (HI.out.below hb)
              have HL3 := Lib.hid (HL2.out.below hb)
              clear hb hx HI HL2 HB2 HT HD1
              go_wp2_with (at_builtin; refine wl_append_bytes rfl _ _ rfl (w3.heap.size + 1) _ [] X A c rfl ?c1 rfl ?c2 HN.out ?c3 ?c4 ?_)
              case c1 => first | exact own_none _ | exact OwnBy.row (xs := []) (rowAt_alloc_at _ _ _ _ (by simp)) (by decide)
              case c2 => exact (HI3.out.alloc _).alloc _
              case c3 => simp; omega
              case c4 => simp
              intro v4 w4 hown hb
              have HO4 := Lib.hid hown
              have hz := hb.size
              have hb1 : Below w3.heap.size w3 w4 := (below_allocS (below_allocS (Below.refl w3.heap.size w3) _) _).trans (hb.mono (by omega))
              have HB4 := Lib.hid (bthen HB3.out hb1)
              have HL4 := Lib.hid (HL3.out.below hb1)
              have hz4 : w3.heap.size + 1 ≤ w4.heap.size := by simp at hz; omega
              clear hown hb hb1 hz HI3 HL3 HB3
              go_wp2_with (at_builtin; refine wl_append_bytes rfl _ _ rfl (w3.heap.size + 1) _ X l2 A2 c2 rfl HO4.out rfl HL4.out (fun h => (HLM.out.2.1 h).1) ?d1 hz4 ?_)
              case d1 => omega
              intro v5 w5 hown hb
              obtain ⟨Y, hY⟩ : ∃ Y, X ++ l2 = Y := ⟨_, rfl⟩
              have hYl : Y.length ≤ 200020 := by rw [← hY, List.length_append]; omega
              rw [hY] at hown
              have HY := Lib.hid hY
              clear hY
              obtain ⟨A5, c5, rfl, i1, i2, i3, -⟩ := hown.isBy
              have HI5 := Lib.hid i1
              have HN5 := Lib.hid i2
              have HB5 := Lib.hid (HB4.out.trans (hb.mono (by have := HB3z; omega)))
              clear hown hb i1 i2 i3 HO4 HB4 HL4
              have hne : l2 ≠ [] := fun h => hA (by rw [h]; decide)
              go_wp2_with fail
              have HD2 := sdecode_ok s A5 c5 Y l2 false w5 HR.out HJK.out.1 HM.out.big HI5.out HN5.out (Nat.le_trans hYl (by decide)) (by show Y = staW s ++ l2; rw [HX.out]; exact HY.out.symm)
              refine HD2.mono ?_
              rintro x w6 ⟨hb, -, hx, -⟩
              rw [hx rfl hne]
              have HB6 := Lib.hid (bthen HB5.out hb)
              clear hb hx HI5 HN5 HB5
              go_wp2_with fail
              refine (awake17 _).mono ?_
              rintro e wz ⟨rfl, hb⟩
              have HBZ := Lib.hid (bthen (below_allocS HB6.out _) hb)
              clear hb
              go_wp2
              go_ret
              exact ⟨rfl, HBZ.out⟩
end Go.Proofs.Ytinhaipnmmgplaa
