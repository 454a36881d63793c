/-
  Layer 17 (state): Same.
-/
import Derived.Test.YtinhaipnmmgplaaGreatZStSame1
import Derived.Test.YtinhaipnmmgplaaGreatZGO
import Derived.Test.YtinhaipnmmgplaaGreatZGN
import Derived.Test.YtinhaipnmmgplaaGreatZHeldR
namespace Go.Proofs.YtinhaipnmmgplaaGreat
set_option maxRecDepth 20000
open Go.RowKit
set_option linter.unusedSimpArgs false
set_option linter.unusedVariables false
attribute [local go_sem] rowCells rowAt_drewN get_ints getE_ints set_ints size_ints rowAt_alloc rowAt_drew setRow_alloc setRow_drewN setRow_drew setCell_alloc setCell_drewN splice_upd splice_put splice_all load_vec_cut load_vecs_cut load_rights_cut load_counter store_vec store_rights store_counter eql_vec neq_vec index_vec eql_rights neq_rights eql_counter index_vecs cut_ints sub_zero
attribute [local go_sem ↓] xload_vec xstore_vec xalloc_vec xeql_vec xneq_vec xindex_vec xbuild_vec0 xload_rights xstore_rights xalloc_rights xeql_rights xneq_rights xbuild_rights0 xload_vecs xindex_vecs xload_counter xstore_counter xalloc_counter xbuild_counter0 xeql_counter xbuild_counter3
attribute [local go_sem] rowAt_setRow rowAt_setCell load_vec_cut_later load_rights_later load_counter_later Later.cell Later.frozen build3_ints
attribute [local go_sem ↓] xload_field xstore_field xalloc_field xload_lock
attribute [local go_sem] load_field load_field_later store_field load_counter_cut load_lock_cut load_lock_later Fld.size Fld.get0 Fld.get1 Fld.get2 Fld.get586 Fld.getE0 Fld.getE1 Fld.getE2 Fld.getE586 Fld.cut_cnt Fld.cut_lock Fld.cut_all Fld.splice_all strT_size

attribute [local go_sem ↓] xload_hold xstore_hold xalloc_hold
attribute [local go_sem] load_hold load_hold_later store_hold
attribute [local go_sem ↓] xbuild_lock0 xeql_lock xneq_lock xneq_counter
attribute [local go_sem] eql_lock neq_lock neq_counter

attribute [local go_sem] zero_field
attribute [local go_sem] resC_size resC_all resC_splice resC_set0 resC_set1 Fld.set2 Fld.set586
attribute [local go_sem ↓] xbuildS_field
attribute [local go_sem] buildSF_agg
attribute [local go_sem ↓] xstore_sta xload_sta xalloc_sta xbuild_sta0 xstore_bar xload_bar xalloc_bar xbuild_bar0 xstore_plan xload_plan xalloc_plan xbuild_plan0
attribute [local go_sem] load_sta load_sta_later store_sta load_bar load_bar_later store_bar load_plan load_plan_later store_plan
attribute [local go_sem] Sta.size Sta.bsize Pl.size Sta.cut_all Sta.cut_p Sta.cut_bar Sta.cut_bp Sta.bcut_all Sta.bcut_p Pl.cut_all Sta.splice_all Sta.bsplice_all Pl.splice_all Sta.splice_bar
attribute [local go_sem] Sta.get0 Sta.getE0 Sta.set0 Sta.get1 Sta.getE1 Sta.set1 Sta.get2 Sta.getE2 Sta.set2 Sta.get3 Sta.getE3 Sta.set3 Sta.get4 Sta.getE4 Sta.set4 Sta.get5 Sta.getE5 Sta.set5 Sta.get6 Sta.getE6 Sta.set6 Sta.get7 Sta.getE7 Sta.set7 Sta.get8 Sta.getE8 Sta.set8 Sta.get9 Sta.getE9 Sta.set9 Sta.get10 Sta.getE10 Sta.set10 Sta.get11 Sta.getE11 Sta.set11 Sta.get12 Sta.getE12 Sta.set12 Sta.get13 Sta.getE13 Sta.set13 Sta.get14 Sta.getE14 Sta.set14 Sta.get15 Sta.getE15 Sta.set15 Sta.get16 Sta.getE16 Sta.set16 Sta.get17 Sta.getE17 Sta.set17 Sta.get18 Sta.getE18 Sta.set18 Sta.get19 Sta.getE19 Sta.set19 Sta.get20 Sta.getE20 Sta.set20 Sta.get21 Sta.getE21 Sta.set21 Sta.get22 Sta.getE22 Sta.set22 Sta.get23 Sta.getE23 Sta.set23 Sta.get24 Sta.getE24 Sta.set24
attribute [local go_sem] Sta.bget0 Sta.bgetE0 Sta.bget1 Sta.bgetE1 Sta.bget2 Sta.bgetE2 Sta.bget3 Sta.bgetE3 Sta.bget4 Sta.bgetE4 Sta.bget5 Sta.bgetE5 Sta.bget6 Sta.bgetE6 Sta.bget7 Sta.bgetE7 Sta.bget8 Sta.bgetE8 Sta.bget9 Sta.bgetE9 Sta.bget10 Sta.bgetE10 Sta.bget11 Sta.bgetE11 Sta.bget12 Sta.bgetE12 Sta.bget13 Sta.bgetE13 Pl.get0 Pl.getE0 Pl.get1 Pl.getE1 Pl.get2 Pl.getE2 Pl.get3 Pl.getE3 Pl.get4 Pl.getE4
attribute [local go_sem ↓] xeql_plan xneq_plan
attribute [local go_sem] eql_plan neq_plan
def sameSB (a b : Sta) : Bool := (a.self == b.self) && (a.nn == b.nn) && (a.clk == b.clk) && (a.dec == b.dec) && (a.frz == b.frz) && eqPl a.p b.p && sameL a.f b.f && (a.bn == b.bn) && (a.bst == b.bst) && (a.bnum == b.bnum) && (a.bep == b.bep) && eqPl a.bp b.bp && (a.due == b.due) && (a.ack == b.ack) && (a.told == b.told) && sameL a.j b.j && sameL a.m b.m
set_option maxHeartbeats 16000000 in
theorem ssame_any (a b : Sta) (w : World) (h1 : StaOk w a) (h2 : StaOk w b) : Calls Tryz.prog 8 #[.agg a.cells, .agg b.cells] w fun e w' => e = .returned (.bool (sameSB a b)) ∧ Below w.heap.size w w' := by
  have H1 := Lib.hid h1
  have H2 := Lib.hid h2
  obtain ⟨R, hR0⟩ : ∃ R, sameSB a b = R := ⟨_, rfl⟩
  rw [hR0]
  have HRS := Lib.hid hR0
  clear h1 h2 hR0
  go_enter Tryz.func8, Tryz.ntmps8
  go_upto_region 2 with fail
  go_cut [6, 7, 8, 9, 10, 11] (fun u6 u7 _ _ _ _ wx => ∃ p6 p7 : Nat, u6 = .pointer (some ⟨p6, 0, none⟩) ∧ u7 = .pointer (some ⟨p7, 0, none⟩) ∧ rowAt wx p6 = some (a.bar, 28) ∧ rowAt wx p7 = some (b.bar, 28) ∧ rowAt wx w.heap.size = some (a.cells, 30) ∧ rowAt wx (w.heap.size + 1) = some (b.cells, 30) ∧ Below w.heap.size w wx)
  case first =>
    refine wp_region_late_drew (lt := []) (S := fun w' : World => rowAt w' w.heap.size = some (a.cells, 30) ∧ rowAt w' (w.heap.size + 1) = some (b.cells, 30) ∧ Hid (Below w.heap.size w w')) (by kernel_rfl) ⟨rowPast (rowAt_alloc_at _ _ _ _ rfl), rowAt_alloc_at _ _ _ _ (by simp), Lib.hid (below_allocS (below_allocS (Below.refl _ _) _) _).drew⟩ (fun hS => ?_)
    generalize ((w.alloc (.cells a.cells 30)).alloc (.cells b.cells 30)).drew = W7 at *
    have h70 := hS.1
    have h71 := hS.2.1
    have h7b := hS.2.2
    refine late_take (i := 0) (lt := []) (rd := [0, 1, 2, 3]) (by simp only [List.getElem?_toArray, List.getElem?_cons_succ, List.getElem?_cons_zero]; rfl) (by decide +kernel) (by decide +kernel) (by decide +kernel) (by decide +kernel) (by decide +kernel) (by exact fun _ _ _ _ h => h) hS (by rfl) ?_
    apply Exists.intro
    refine ⟨fun w' hSw => ?_, ?_⟩
    · go_simp
      with_reducible rfl
    (try simp only [act_put, act_put_none, List.set_cons_zero, List.set_cons_succ])
    refine late_take (i := 1) (lt := []) (rd := [0, 1, 2, 3]) (by simp only [List.getElem?_toArray, List.getElem?_cons_succ, List.getElem?_cons_zero]; rfl) (by decide +kernel) (by decide +kernel) (by decide +kernel) (by decide +kernel) (by decide +kernel) (by exact fun _ _ _ _ h => h) hS (by rfl) ?_
    apply Exists.intro
    refine ⟨fun w' hSw => ?_, ?_⟩
    · go_simp
      with_reducible rfl
    (try simp only [act_put, act_put_none, List.set_cons_zero, List.set_cons_succ])
    refine late_take (i := 2) (lt := []) (rd := [0, 1, 2, 3]) (by simp only [List.getElem?_toArray, List.getElem?_cons_succ, List.getElem?_cons_zero]; rfl) (by decide +kernel) (by decide +kernel) (by decide +kernel) (by decide +kernel) (by decide +kernel) (by exact fun _ _ _ _ h => h) hS (by rfl) ?_
    apply Exists.intro
    refine ⟨fun w' hSw => ?_, ?_⟩
    · go_simp
      with_reducible rfl
    (try simp only [act_put, act_put_none, List.set_cons_zero, List.set_cons_succ])
    refine late_take (i := 3) (lt := []) (rd := [0, 1, 2, 3]) (by simp only [List.getElem?_toArray, List.getElem?_cons_succ, List.getElem?_cons_zero]; rfl) (by decide +kernel) (by decide +kernel) (by decide +kernel) (by decide +kernel) (by decide +kernel) (by exact fun _ _ _ _ h => h) hS (by rfl) ?_
    apply Exists.intro
    refine ⟨fun w' hSw => ?_, ?_⟩
    · go_simp
      with_reducible rfl
    (try simp only [act_put, act_put_none, List.set_cons_zero, List.set_cons_succ])
    refine wpAnyR_ready (rs := [4, 5]) (by decide +kernel) (by simp) ?_
    refine AllReadyR.cons (i := 4) (by simp only [List.getElem?_toArray, List.getElem?_cons_succ, List.getElem?_cons_zero]; rfl) (fun K hK => ?_) ?_
    · go_simp
      refine hK.out _ _ ⟨rowPast hS.1, rowPast hS.2.1, Lib.hid (below_allocS hS.2.2.out _)⟩ (fun hS2 => ?_)
      clear hS hK K
      have hS := hS2
      clear hS2
      (try simp only [act_put, act_put_none, List.set_cons_zero, List.set_cons_succ])
      refine wpAnyR_ready (rs := [5]) (by decide +kernel) (by simp) ?_
      refine AllReadyR.cons (i := 5) (by simp only [List.getElem?_toArray, List.getElem?_cons_succ, List.getElem?_cons_zero]; rfl) (fun K hK => ?_) ?_
      · go_simp
        refine hK.out _ _ ⟨rowPast hS.1, rowPast hS.2.1, Lib.hid (below_allocS hS.2.2.out _)⟩ (fun hS2 => ?_)
        clear hS hK K
        have hS := hS2
        clear hS2
        (try simp only [act_put, act_put_none, List.set_cons_zero, List.set_cons_succ])
        refine wpAnyR_ready (rs := [6]) (by decide +kernel) (by simp) ?_
        refine AllReadyR.cons (i := 6) (by simp only [List.getElem?_toArray, List.getElem?_cons_succ, List.getElem?_cons_zero]; rfl) (fun K hK => ?_) ?_
        · go_simp
          refine hK.out _ _ ⟨rowPast (rowPast h70), rowPast (rowPast h71), Lib.hid (below_allocS (below_allocS h7b.out _) _)⟩ (fun hS2 => ?_)
          clear hS hK K
          have hS := hS2
          clear hS2
          (try simp only [act_put, act_put_none, List.set_cons_zero, List.set_cons_succ])
          refine wpAnyR_ready (rs := [7]) (by decide +kernel) (by simp) ?_
          refine AllReadyR.cons (i := 7) (by simp only [List.getElem?_toArray, List.getElem?_cons_succ, List.getElem?_cons_zero]; rfl) (fun K hK => ?_) ?_
          · go_simp
            refine hK.out _ _ ⟨rowPast (rowPast h70), rowPast (rowPast h71), Lib.hid (below_allocS (below_allocS h7b.out _) _)⟩ (fun hS2 => ?_)
            clear hS hK K
            have hS := hS2
            clear hS2
            (try simp only [act_put, act_put_none, List.set_cons_zero, List.set_cons_succ])
            refine wpAnyR_done (by decide +kernel) ?_ _
            go_wp2_with fail
            go_meet
            first
              | exact ⟨_, _, rfl, rfl, rowPast (rowAt_alloc_at _ _ _ _ rfl), rowAt_alloc_at _ _ _ _ (by simp), hS.1, hS.2.1, hS.2.2.out⟩
              | exact ⟨_, _, rfl, rfl, rowAt_alloc_at _ _ _ _ (by simp), rowPast (rowAt_alloc_at _ _ _ _ rfl), hS.1, hS.2.1, hS.2.2.out⟩
          exact AllReadyR.nil
        exact AllReadyR.nil
      exact AllReadyR.nil
    refine AllReadyR.cons (i := 5) (by simp only [List.getElem?_toArray, List.getElem?_cons_succ, List.getElem?_cons_zero]; rfl) (fun K hK => ?_) ?_
    · go_simp
      refine hK.out _ _ ⟨rowPast hS.1, rowPast hS.2.1, Lib.hid (below_allocS hS.2.2.out _)⟩ (fun hS2 => ?_)
      clear hS hK K
      have hS := hS2
      clear hS2
      (try simp only [act_put, act_put_none, List.set_cons_zero, List.set_cons_succ])
      refine wpAnyR_ready (rs := [4]) (by decide +kernel) (by simp) ?_
      refine AllReadyR.cons (i := 4) (by simp only [List.getElem?_toArray, List.getElem?_cons_succ, List.getElem?_cons_zero]; rfl) (fun K hK => ?_) ?_
      · go_simp
        refine hK.out _ _ ⟨rowPast hS.1, rowPast hS.2.1, Lib.hid (below_allocS hS.2.2.out _)⟩ (fun hS2 => ?_)
        clear hS hK K
        have hS := hS2
        clear hS2
        (try simp only [act_put, act_put_none, List.set_cons_zero, List.set_cons_succ])
        refine wpAnyR_ready (rs := [6]) (by decide +kernel) (by simp) ?_
        refine AllReadyR.cons (i := 6) (by simp only [List.getElem?_toArray, List.getElem?_cons_succ, List.getElem?_cons_zero]; rfl) (fun K hK => ?_) ?_
        · go_simp
          refine hK.out _ _ ⟨rowPast (rowPast h70), rowPast (rowPast h71), Lib.hid (below_allocS (below_allocS h7b.out _) _)⟩ (fun hS2 => ?_)
          clear hS hK K
          have hS := hS2
          clear hS2
          (try simp only [act_put, act_put_none, List.set_cons_zero, List.set_cons_succ])
          refine wpAnyR_ready (rs := [7]) (by decide +kernel) (by simp) ?_
          refine AllReadyR.cons (i := 7) (by simp only [List.getElem?_toArray, List.getElem?_cons_succ, List.getElem?_cons_zero]; rfl) (fun K hK => ?_) ?_
          · go_simp
            refine hK.out _ _ ⟨rowPast (rowPast h70), rowPast (rowPast h71), Lib.hid (below_allocS (below_allocS h7b.out _) _)⟩ (fun hS2 => ?_)
            clear hS hK K
            have hS := hS2
            clear hS2
            (try simp only [act_put, act_put_none, List.set_cons_zero, List.set_cons_succ])
            refine wpAnyR_done (by decide +kernel) ?_ _
            go_wp2_with fail
            go_meet
            first
              | exact ⟨_, _, rfl, rfl, rowPast (rowAt_alloc_at _ _ _ _ rfl), rowAt_alloc_at _ _ _ _ (by simp), hS.1, hS.2.1, hS.2.2.out⟩
              | exact ⟨_, _, rfl, rfl, rowAt_alloc_at _ _ _ _ (by simp), rowPast (rowAt_alloc_at _ _ _ _ rfl), hS.1, hS.2.1, hS.2.2.out⟩
          exact AllReadyR.nil
        exact AllReadyR.nil
      exact AllReadyR.nil
    exact AllReadyR.nil
  case rest =>
    obtain ⟨p6, p7, rfl, rfl, r6, r7, ra, rb, hb⟩ := hcut
    rename World => wc
    have HBz := Lib.hid hb
    have hR := HRS.out
    obtain ⟨b0, e0⟩ : ∃ z, (a.self == b.self) = z := ⟨_, rfl⟩
    obtain ⟨b1, e1⟩ : ∃ z, (a.nn == b.nn) = z := ⟨_, rfl⟩
    obtain ⟨b2, e2⟩ : ∃ z, (a.clk == b.clk) = z := ⟨_, rfl⟩
    obtain ⟨b3, e3⟩ : ∃ z, (a.dec == b.dec) = z := ⟨_, rfl⟩
    obtain ⟨b4, e4⟩ : ∃ z, (a.frz == b.frz) = z := ⟨_, rfl⟩
    obtain ⟨b5, e5⟩ : ∃ z, eqPl a.p b.p = z := ⟨_, rfl⟩
    obtain ⟨b6, e6⟩ : ∃ z, sameL a.f b.f = z := ⟨_, rfl⟩
    obtain ⟨b7, e7⟩ : ∃ z, (a.bn == b.bn) = z := ⟨_, rfl⟩
    obtain ⟨b8, e8⟩ : ∃ z, (a.bst == b.bst) = z := ⟨_, rfl⟩
    obtain ⟨b9, e9⟩ : ∃ z, (a.bnum == b.bnum) = z := ⟨_, rfl⟩
    obtain ⟨b10, e10⟩ : ∃ z, (a.bep == b.bep) = z := ⟨_, rfl⟩
    obtain ⟨b11, e11⟩ : ∃ z, eqPl a.bp b.bp = z := ⟨_, rfl⟩
    obtain ⟨b12, e12⟩ : ∃ z, (a.due == b.due) = z := ⟨_, rfl⟩
    obtain ⟨b13, e13⟩ : ∃ z, (a.ack == b.ack) = z := ⟨_, rfl⟩
    obtain ⟨b14, e14⟩ : ∃ z, (a.told == b.told) = z := ⟨_, rfl⟩
    obtain ⟨b15, e15⟩ : ∃ z, sameL a.j b.j = z := ⟨_, rfl⟩
    obtain ⟨b16, e16⟩ : ∃ z, sameL a.m b.m = z := ⟨_, rfl⟩
    have hM : R = (b0 && b1 && b2 && b3 && b4 && b5 && b6 && b7 && b8 && b9 && b10 && b11 && b12 && b13 && b14 && b15 && b16) := by rw [← hR, ← e0, ← e1, ← e2, ← e3, ← e4, ← e5, ← e6, ← e7, ← e8, ← e9, ← e10, ← e11, ← e12, ← e13, ← e14, ← e15, ← e16]; rfl
    clear hR hb HRS
    have d0 : (a.self != b.self) = !b0 := by rw [← e0]; rfl
    have d1 : (a.nn != b.nn) = !b1 := by rw [← e1]; rfl
    have d2 : (a.clk != b.clk) = !b2 := by rw [← e2]; rfl
    have d3 : (a.dec != b.dec) = !b3 := by rw [← e3]; rfl
    have d4 : (a.frz != b.frz) = !b4 := by rw [← e4]; rfl
    have HC6 := Lib.hid e6
    clear e6
    have HC15 := Lib.hid e15
    clear e15
    have HC16 := Lib.hid e16
    clear e16
    have za := fun i => cell_of_rowAt ra i
    have zb := fun i => cell_of_rowAt rb i
    have na := rowAt_lt ra
    have nb := rowAt_lt rb
    have y6 := fun i => cell_of_rowAt r6 i
    have y7 := fun i => cell_of_rowAt r7 i
    cases b0
    · obtain rfl : R = false := by simpa using hM
      clear hM
      go_wp2_with fail
      go_ret
      exact ⟨rfl, HBz.out⟩
    · cases b1
      · obtain rfl : R = false := by simpa using hM
        clear hM
        go_wp2_with fail
        go_ret
        exact ⟨rfl, HBz.out⟩
      · cases b2
        · obtain rfl : R = false := by simpa using hM
          clear hM
          go_wp2_with fail
          go_ret
          exact ⟨rfl, HBz.out⟩
        · cases b3
          · obtain rfl : R = false := by simpa using hM
            clear hM
            go_wp2_with fail
            go_ret
            exact ⟨rfl, HBz.out⟩
          · cases b4
            · obtain rfl : R = false := by simpa using hM
              clear hM
              go_wp2_with fail
              go_ret
              exact ⟨rfl, HBz.out⟩
            · cases b5
              · obtain rfl : R = false := by simpa using hM
                clear hM
                go_wp2_with fail
                go_ret
                exact ⟨rfl, HBz.out⟩
              · go_wp2_with fail
                refine (same1_at HC6.out (H1.out.f.below HBz.out) (H2.out.f.below HBz.out)).mono ?_
                rintro e w6 ⟨rfl, hb⟩
                have ra' := rowKeep hb ra
                have rb' := rowKeep hb rb
                have r6' := rowKeep hb r6
                have r7' := rowKeep hb r7
                have HBn := Lib.hid (bthen HBz.out hb)
                clear hb ra rb r6 r7 HBz za zb na nb y6 y7
                have ra := ra'
                have rb := rb'
                have r6 := r6'
                have r7 := r7'
                have HBz := HBn
                clear ra' rb' r6' r7' HBn
                have za := fun i => cell_of_rowAt ra i
                have zb := fun i => cell_of_rowAt rb i
                have na := rowAt_lt ra
                have nb := rowAt_lt rb
                have y6 := fun i => cell_of_rowAt r6 i
                have y7 := fun i => cell_of_rowAt r7 i
                cases b6
                · obtain rfl : R = false := by simpa using hM
                  clear hM
                  go_wp2_with fail
                  go_ret
                  exact ⟨rfl, HBz.out⟩
                · cases b7
                  · obtain rfl : R = false := by simpa using hM
                    clear hM
                    go_wp2_with fail
                    go_ret
                    exact ⟨rfl, HBz.out⟩
                  · cases b8
                    · obtain rfl : R = false := by simpa using hM
                      clear hM
                      go_wp2_with fail
                      go_ret
                      exact ⟨rfl, HBz.out⟩
                    · cases b9
                      · obtain rfl : R = false := by simpa using hM
                        clear hM
                        go_wp2_with fail
                        go_ret
                        exact ⟨rfl, HBz.out⟩
                      · cases b10
                        · obtain rfl : R = false := by simpa using hM
                          clear hM
                          go_wp2_with fail
                          go_ret
                          exact ⟨rfl, HBz.out⟩
                        · cases b11
                          · obtain rfl : R = false := by simpa using hM
                            clear hM
                            go_wp2_with fail
                            go_ret
                            exact ⟨rfl, HBz.out⟩
                          · cases b12
                            · obtain rfl : R = false := by simpa using hM
                              clear hM
                              go_wp2_with fail
                              go_ret
                              exact ⟨rfl, HBz.out⟩
                            · cases b13
                              · obtain rfl : R = false := by simpa using hM
                                clear hM
                                go_wp2_with fail
                                go_ret
                                exact ⟨rfl, HBz.out⟩
                              · cases b14
                                · obtain rfl : R = false := by simpa using hM
                                  clear hM
                                  go_wp2_with fail
                                  go_ret
                                  exact ⟨rfl, HBz.out⟩
                                · go_wp2_with fail
                                  refine (same1_at HC15.out (H1.out.j.below HBz.out) (H2.out.j.below HBz.out)).mono ?_
                                  rintro e w15 ⟨rfl, hb⟩
                                  have ra' := rowKeep hb ra
                                  have rb' := rowKeep hb rb
                                  have r6' := rowKeep hb r6
                                  have r7' := rowKeep hb r7
                                  have HBn := Lib.hid (bthen HBz.out hb)
                                  clear hb ra rb r6 r7 HBz za zb na nb y6 y7
                                  have ra := ra'
                                  have rb := rb'
                                  have r6 := r6'
                                  have r7 := r7'
                                  have HBz := HBn
                                  clear ra' rb' r6' r7' HBn
                                  have za := fun i => cell_of_rowAt ra i
                                  have zb := fun i => cell_of_rowAt rb i
                                  have na := rowAt_lt ra
                                  have nb := rowAt_lt rb
                                  have y6 := fun i => cell_of_rowAt r6 i
                                  have y7 := fun i => cell_of_rowAt r7 i
                                  cases b15
                                  · obtain rfl : R = false := by simpa using hM
                                    clear hM
                                    go_wp2_with fail
                                    go_ret
                                    exact ⟨rfl, HBz.out⟩
                                  · obtain rfl : R = b16 := by simpa using hM
                                    clear hM
                                    go_wp2_with fail
                                    refine (same1_at HC16.out (H1.out.m.below HBz.out) (H2.out.m.below HBz.out)).mono ?_
                                    rintro e w16 ⟨rfl, hb⟩
                                    have ra' := rowKeep hb ra
                                    have rb' := rowKeep hb rb
                                    have r6' := rowKeep hb r6
                                    have r7' := rowKeep hb r7
                                    have HBn := Lib.hid (bthen HBz.out hb)
                                    clear hb ra rb r6 r7 HBz za zb na nb y6 y7
                                    have ra := ra'
                                    have rb := rb'
                                    have r6 := r6'
                                    have r7 := r7'
                                    have HBz := HBn
                                    clear ra' rb' r6' r7' HBn
                                    have za := fun i => cell_of_rowAt ra i
                                    have zb := fun i => cell_of_rowAt rb i
                                    have na := rowAt_lt ra
                                    have nb := rowAt_lt rb
                                    have y6 := fun i => cell_of_rowAt r6 i
                                    have y7 := fun i => cell_of_rowAt r7 i
                                    go_wp2_with fail
                                    go_ret
                                    exact ⟨rfl, HBz.out⟩
end Go.Proofs.YtinhaipnmmgplaaGreat
