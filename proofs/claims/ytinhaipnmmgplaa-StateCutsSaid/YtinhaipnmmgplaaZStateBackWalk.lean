/-
  Layer 17 (state): the walk of StateBack.
-/
import Derived.Test.YtinhaipnmmgplaaZGP
import Derived.Test.YtinhaipnmmgplaaZHeldR
import Derived.Test.YtinhaipnmmgplaaZGQ
namespace Go.Proofs.Ytinhaipnmmgplaa
set_option maxRecDepth 20000
open Go.RowKit
set_option linter.unusedSimpArgs false
set_option linter.unusedVariables false
attribute [local go_sem] rowCells rowAt_drewN get_ints getE_ints set_ints size_ints rowAt_alloc rowAt_drew setRow_alloc setRow_drewN setRow_drew setCell_alloc setCell_drewN splice_upd splice_put splice_all load_vec_cut load_vecs_cut load_rights_cut load_counter store_vec store_rights store_counter eql_vec neq_vec index_vec eql_rights neq_rights eql_counter index_vecs cut_ints sub_zero
attribute [local go_sem ↓] xload_vec xstore_vec xalloc_vec xeql_vec xneq_vec xindex_vec xbuild_vec0 xload_rights xstore_rights xalloc_rights xeql_rights xneq_rights xbuild_rights0 xload_vecs xindex_vecs xload_counter xstore_counter xalloc_counter xbuild_counter0 xeql_counter xbuild_counter3
attribute [local go_sem] rowAt_setRow rowAt_setCell load_vec_cut_later load_rights_later load_counter_later Later.cell Later.frozen build3_ints
attribute [local go_sem ↓] xload_field xstore_field xalloc_field xload_lock
attribute [local go_sem] load_field load_field_later store_field load_counter_cut load_lock_cut load_lock_later Fld.size Fld.get0 Fld.get1 Fld.get2 Fld.get586 Fld.getE0 Fld.getE1 Fld.getE2 Fld.getE586 Fld.cut_cnt Fld.cut_lock Fld.cut_all Fld.splice_all strT_size

attribute [local go_sem ↓] xload_hold xstore_hold xalloc_hold
attribute [local go_sem] load_hold load_hold_later store_hold
attribute [local go_sem ↓] xbuild_lock0 xeql_lock xneq_lock xneq_counter
attribute [local go_sem] eql_lock neq_lock neq_counter

attribute [local go_sem] zero_field
attribute [local go_sem] resC_size resC_all resC_splice resC_set0 resC_set1 Fld.set2 Fld.set586
attribute [local go_sem ↓] xbuildS_field
attribute [local go_sem] buildSF_agg
attribute [local go_sem ↓] xstore_sta xload_sta xalloc_sta xbuild_sta0 xstore_bar xload_bar xalloc_bar xbuild_bar0 xstore_plan xload_plan xalloc_plan xbuild_plan0
attribute [local go_sem] load_sta load_sta_later store_sta load_bar load_bar_later store_bar load_plan load_plan_later store_plan
attribute [local go_sem] Sta.size Sta.bsize Pl.size Sta.cut_all Sta.cut_p Sta.cut_bar Sta.cut_bp Sta.bcut_all Sta.bcut_p Pl.cut_all Sta.splice_all Sta.bsplice_all Pl.splice_all Sta.splice_bar
attribute [local go_sem] Sta.get0 Sta.getE0 Sta.set0 Sta.get1 Sta.getE1 Sta.set1 Sta.get2 Sta.getE2 Sta.set2 Sta.get3 Sta.getE3 Sta.set3 Sta.get4 Sta.getE4 Sta.set4 Sta.get5 Sta.getE5 Sta.set5 Sta.get6 Sta.getE6 Sta.set6 Sta.get7 Sta.getE7 Sta.set7 Sta.get8 Sta.getE8 Sta.set8 Sta.get9 Sta.getE9 Sta.set9 Sta.get10 Sta.getE10 Sta.set10 Sta.get11 Sta.getE11 Sta.set11 Sta.get12 Sta.getE12 Sta.set12 Sta.get13 Sta.getE13 Sta.set13 Sta.get14 Sta.getE14 Sta.set14 Sta.get15 Sta.getE15 Sta.set15 Sta.get16 Sta.getE16 Sta.set16 Sta.get17 Sta.getE17 Sta.set17 Sta.get18 Sta.getE18 Sta.set18 Sta.get19 Sta.getE19 Sta.set19 Sta.get20 Sta.getE20 Sta.set20 Sta.get21 Sta.getE21 Sta.set21 Sta.get22 Sta.getE22 Sta.set22 Sta.get23 Sta.getE23 Sta.set23 Sta.get24 Sta.getE24 Sta.set24
attribute [local go_sem] Sta.bget0 Sta.bgetE0 Sta.bget1 Sta.bgetE1 Sta.bget2 Sta.bgetE2 Sta.bget3 Sta.bgetE3 Sta.bget4 Sta.bgetE4 Sta.bget5 Sta.bgetE5 Sta.bget6 Sta.bgetE6 Sta.bget7 Sta.bgetE7 Sta.bget8 Sta.bgetE8 Sta.bget9 Sta.bgetE9 Sta.bget10 Sta.bgetE10 Sta.bget11 Sta.bgetE11 Sta.bget12 Sta.bgetE12 Sta.bget13 Sta.bgetE13 Pl.get0 Pl.getE0 Pl.get1 Pl.getE1 Pl.get2 Pl.getE2 Pl.get3 Pl.getE3 Pl.get4 Pl.getE4
set_option maxHeartbeats 8000000 in
theorem stateBack_walk (s : Sta) (w : World) (h : StaOk w s) :
    Calls Try.prog 4 #[.agg s.cells] w fun e w' => e = .returned (.bool true) ∧ Below w.heap.size w w' := by
  obtain ⟨b, hb⟩ : ∃ b, few17 s = b := ⟨_, rfl⟩
  obtain ⟨R, hR⟩ : ∃ R, rightS s = R := ⟨_, rfl⟩
  have HF := Lib.hid hb
  have HM := Lib.hid h
  have HR := Lib.hid hR
  have HJM : Hid (b = true → (s.j.n ≤ 1000000 ∧ s.m.n ≤ 1000000) ∧ fewS s) := Lib.hid fun e => (by
    subst e
    have := few17_parts hb
    exact ⟨⟨by omega, by omega⟩, few17_fewS hb⟩)
  clear h hb hR
  cases b
  · clear HR HJM
    go_enter Try.func4, Try.ntmps4
    go_wp2_with fail
    refine (few17_at HF.out (HM.out.below ((Below.refl _ _).alloc (Nat.le_refl _) _))).mono ?_
    rintro e w1 ⟨rfl, hb⟩
    have HB1 := Lib.hid (bthen (below_allocS (Below.refl _ _) _) hb)
    clear hb HF HM
    go_wp2_with fail
    refine (awake17 _).mono ?_
    rintro e w2 ⟨rfl, hb⟩
    have HB2 := Lib.hid (bthen HB1.out hb)
    clear hb
    go_wp2
    go_ret
    exact ⟨rfl, HB2.out⟩
  · have HJK := Lib.hid (HJM.out rfl)
    clear HJM
    go_enter Try.func4, Try.ntmps4
    go_wp2_with fail
    refine (few17_at HF.out (HM.out.below ((Below.refl _ _).alloc (Nat.le_refl _) _))).mono ?_
    rintro e w1 ⟨rfl, hb⟩
    have r1 : rowAt w1 w.heap.size = some (s.cells, 28) := rowKeep hb (rowAt_alloc_at _ _ _ _ rfl)
    have HB1 := Lib.hid (bthen (below_allocS (Below.refl _ _) _) hb)
    clear hb HF
    go_wp2_with fail
    cases R
    · refine (sencode_no s _ HR.out (HM.out.below HB1.out) HJK.out.1.1 HJK.out.1.2).mono ?_
      rintro e w2 ⟨rfl, hb⟩
      have r2 := rowKeep hb r1
      have HB2 := Lib.hid (bthen HB1.out hb)
      clear hb r1 HB1 HR
      go_upto_region 4 with fail
      refine wp_region_late_drew (lt := []) (S := fun w' : World => rowAt w' w.heap.size = some (s.cells, 28) ∧ Hid (Below w.heap.size w w')) (by kernel_rfl) ⟨r2, Lib.hid HB2.out.drew⟩ (fun hS => ?_)
      generalize w2.drew = W7 at *
      refine late_take (i := 0) (lt := []) (rd := [0, 2]) (by simp only [List.getElem?_toArray, List.getElem?_cons_succ, List.getElem?_cons_zero]; rfl) (by decide +kernel) (by decide +kernel) (by decide +kernel) (by decide +kernel) (by decide +kernel) (by exact fun _ _ _ _ h => h) hS (by rfl) ?_
      apply Exists.intro
      refine ⟨fun w' hSw => ?_, ?_⟩
      · go_simp
        with_reducible rfl
      (try simp only [act_put, act_put_none, List.set_cons_zero, List.set_cons_succ])
      refine late_take (i := 2) (lt := []) (rd := [0, 2]) (by simp only [List.getElem?_toArray, List.getElem?_cons_succ, List.getElem?_cons_zero]; rfl) (by decide +kernel) (by decide +kernel) (by decide +kernel) (by decide +kernel) (by decide +kernel) (by exact fun _ _ _ _ h => h) hS (by rfl) ?_
      apply Exists.intro
      refine ⟨fun w' hSw => ?_, ?_⟩
      · go_simp
        with_reducible rfl
      (try simp only [act_put, act_put_none, List.set_cons_zero, List.set_cons_succ])
      refine wpAnyR_ready (rs := [1]) (by decide +kernel) (by simp) ?_
      refine AllReadyR.cons (i := 1) (by simp only [List.getElem?_toArray, List.getElem?_cons_succ, List.getElem?_cons_zero]; rfl) (fun K hK => ?_) ?_
      · go_simp
        go_at_call 11
        refine (scopy_ok s W7 (HM.out.below hS.2.out) HJK.out.2).mono ?_
        rintro e w3 ⟨t, rfl, ht, hb⟩
        have HT := Lib.hid ht
        have HTK := Lib.hid (ht.ok HM.out.big)
        go_simp
        refine hK.out _ _ ⟨rowKeep hb hS.1, Lib.hid (bthen hS.2.out hb)⟩ (fun hS2 => ?_)
        clear hS hK K hb ht
        have hS := hS2
        clear hS2
        (try simp only [act_put, act_put_none, List.set_cons_zero, List.set_cons_succ])
        refine wpAnyR_ready (rs := [3]) (by decide +kernel) (by simp) ?_
        refine AllReadyR.cons (i := 3) (by simp only [List.getElem?_toArray, List.getElem?_cons_succ, List.getElem?_cons_zero]; rfl) (fun K hK => ?_) ?_
        · go_simp
          go_at_call 10
          refine (ssame_at HT.out.same HTK.out (HM.out.below hS.2.out)).mono ?_
          rintro e w4 ⟨rfl, hb⟩
          go_simp
          refine hK.out _ _ ⟨rowKeep hb hS.1, Lib.hid (bthen hS.2.out hb)⟩ (fun hS2 => ?_)
          clear hS hK K hb HT HTK
          have hS := hS2
          clear hS2
          (try simp only [act_put, act_put_none, List.set_cons_zero, List.set_cons_succ])
          refine wpAnyR_ready (rs := [4]) (by decide +kernel) (by simp) ?_
          refine AllReadyR.cons (i := 4) (by simp only [List.getElem?_toArray, List.getElem?_cons_succ, List.getElem?_cons_zero]; rfl) (fun K hK => ?_) ?_
          · go_simp
            refine hK.out _ _ hS (fun hS2 => ?_)
            clear hK K hS2
            (try simp only [act_put, act_put_none, List.set_cons_zero, List.set_cons_succ])
            refine wpAnyR_done (by decide +kernel) ?_ _
            have r4 := hS.1
            have HB4 := hS.2
            clear hS
            go_wp2_with fail
            refine (awake17 _).mono ?_
            rintro e w5 ⟨rfl, hb⟩
            have HB5 := Lib.hid (bthen HB4.out hb)
            clear hb
            go_wp2
            go_ret
            exact ⟨rfl, HB5.out⟩
          exact AllReadyR.nil
        exact AllReadyR.nil
      exact AllReadyR.nil
    · refine (sencode_ok s _ HR.out (HM.out.below HB1.out) HJK.out.1.1 HJK.out.1.2).mono ?_
      rintro e w2 ⟨A, c, rfl, hI, hN, hlow, hXc, hb⟩
      have r2 := rowKeep hb r1
      have HB2 := Lib.hid (bthen HB1.out hb)
      have HI := Lib.hid hI
      have HN := Lib.hid hN
      have HL := Lib.hid (staW_len HR.out)
      clear hb r1 HB1 hI hN hlow hXc
      obtain ⟨X, hX⟩ : ∃ X, staW s = X := ⟨_, rfl⟩
      rw [hX] at HI HL ⊢
      have HX := Lib.hid hX
      clear hX
      go_upto_region 4 with fail
      refine wp_region_late_drew (lt := []) (S := fun w' : World => rowAt w' w.heap.size = some (s.cells, 28) ∧ Hid (Below w.heap.size w w') ∧ Hid (IsBy w' A X)) (by kernel_rfl) ⟨r2, Lib.hid HB2.out.drew, Lib.hid (HI.out.below (Below.refl _ _).drew)⟩ (fun hS => ?_)
      generalize w2.drew = W7 at *
      refine late_take (i := 0) (lt := []) (rd := [0, 2]) (by simp only [List.getElem?_toArray, List.getElem?_cons_succ, List.getElem?_cons_zero]; rfl) (by decide +kernel) (by decide +kernel) (by decide +kernel) (by decide +kernel) (by decide +kernel) (by exact fun _ _ _ _ h => h) hS (by rfl) ?_
      apply Exists.intro
      refine ⟨fun w' hSw => ?_, ?_⟩
      · go_simp
        with_reducible rfl
      (try simp only [act_put, act_put_none, List.set_cons_zero, List.set_cons_succ])
      refine late_take (i := 2) (lt := []) (rd := [0, 2]) (by simp only [List.getElem?_toArray, List.getElem?_cons_succ, List.getElem?_cons_zero]; rfl) (by decide +kernel) (by decide +kernel) (by decide +kernel) (by decide +kernel) (by decide +kernel) (by exact fun _ _ _ _ h => h) hS (by rfl) ?_
      apply Exists.intro
      refine ⟨fun w' hSw => ?_, ?_⟩
      · go_simp
        with_reducible rfl
      (try simp only [act_put, act_put_none, List.set_cons_zero, List.set_cons_succ])
      refine wpAnyR_ready (rs := [1]) (by decide +kernel) (by simp) ?_
      refine AllReadyR.cons (i := 1) (by simp only [List.getElem?_toArray, List.getElem?_cons_succ, List.getElem?_cons_zero]; rfl) (fun K hK => ?_) ?_
      · go_simp
        go_at_call 11
        refine (scopy_ok s W7 (HM.out.below hS.2.1.out) HJK.out.2).mono ?_
        rintro e w3 ⟨t, rfl, ht, hb⟩
        have HT := Lib.hid ht
        have HTK := Lib.hid (ht.ok HM.out.big)
        go_simp
        refine hK.out _ _ ⟨rowKeep hb hS.1, Lib.hid (bthen hS.2.1.out hb), Lib.hid (hS.2.2.out.below hb)⟩ (fun hS2 => ?_)
        clear hS hK K hb ht
        have hS := hS2
        clear hS2
        (try simp only [act_put, act_put_none, List.set_cons_zero, List.set_cons_succ])
        refine wpAnyR_ready (rs := [3]) (by decide +kernel) (by simp) ?_
        refine AllReadyR.cons (i := 3) (by simp only [List.getElem?_toArray, List.getElem?_cons_succ, List.getElem?_cons_zero]; rfl) (fun K hK => ?_) ?_
        · go_simp
          go_at_call 10
          refine (ssame_at HT.out.same HTK.out (HM.out.below hS.2.1.out)).mono ?_
          rintro e w4 ⟨rfl, hb⟩
          go_simp
          refine hK.out _ _ ⟨rowKeep hb hS.1, Lib.hid (bthen hS.2.1.out hb), Lib.hid (hS.2.2.out.below hb)⟩ (fun hS2 => ?_)
          clear hS hK K hb HT HTK
          have hS := hS2
          clear hS2
          (try simp only [act_put, act_put_none, List.set_cons_zero, List.set_cons_succ])
          refine wpAnyR_ready (rs := [4]) (by decide +kernel) (by simp) ?_
          refine AllReadyR.cons (i := 4) (by simp only [List.getElem?_toArray, List.getElem?_cons_succ, List.getElem?_cons_zero]; rfl) (fun K hK => ?_) ?_
          · go_simp
            refine hK.out _ _ hS (fun hS2 => ?_)
            clear hK K hS2
            (try simp only [act_put, act_put_none, List.set_cons_zero, List.set_cons_succ])
            refine wpAnyR_done (by decide +kernel) ?_ _
            have r4 := hS.1
            have HB4 := hS.2.1
            have HI4 := hS.2.2
            clear hS
            clear HI
            go_wp2_with fail
            refine (sdecode_ok s A c X [] false _ HR.out HJK.out.1 HM.out.big HI4.out HN.out (Nat.le_trans HL.out (by decide)) (by show X = staW s ++ []; rw [HX.out, List.append_nil])).mono ?_
            rintro x w5 ⟨hb, -, -, hx⟩
            obtain ⟨t2, rfl, ht⟩ := hx rfl rfl
            have r5 := rowKeep hb r4
            have HB5 := Lib.hid (bthen HB4.out hb)
            have HT2 := Lib.hid ht
            have HTK2 := Lib.hid (ht.ok HM.out.big)
            have n5 := rowAt_lt r5
            clear hb hx ht r4 HB4 HI4 HN HL HX
            go_wp2_with fail
            refine (ssame_at HT2.out.same ((HM.out.below HB5.out).below ((Below.refl _ _).alloc (Nat.le_refl _) _)) (HTK2.out.below ((Below.refl _ _).alloc (Nat.le_refl _) _))).mono ?_
            rintro e w6 ⟨rfl, hb⟩
            have HB6 := Lib.hid (bthen (below_allocS HB5.out _) hb)
            clear hb
            go_wp2_with fail
            refine (awake17 _).mono ?_
            rintro e w7 ⟨rfl, hb⟩
            have HB7 := Lib.hid (bthen HB6.out hb)
            clear hb
            go_wp2
            go_ret
            exact ⟨rfl, HB7.out⟩
          exact AllReadyR.nil
        exact AllReadyR.nil
      exact AllReadyR.nil
end Go.Proofs.Ytinhaipnmmgplaa
