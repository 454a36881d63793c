/-
  Layer 14 (message): the walk of MessageCuts.
-/
import Derived.Test.YtmdojegiimhfcaaZMessageBackWalk
import Derived.Test.YtmdojegiimhfcaaZGJ
import Derived.Test.YtmdojegiimhfcaaZFew14
namespace Go.Proofs.Ytmdojegiimhfcaa
set_option maxRecDepth 20000
open Go.RowKit
set_option linter.unusedSimpArgs false
set_option linter.unusedVariables false
attribute [local go_sem] rowCells rowAt_drewN get_ints getE_ints set_ints size_ints rowAt_alloc rowAt_drew setRow_alloc setRow_drewN setRow_drew setCell_alloc setCell_drewN splice_upd splice_put splice_all load_vec_cut load_vecs_cut load_rights_cut load_counter store_vec store_rights store_counter eql_vec neq_vec index_vec eql_rights neq_rights eql_counter index_vecs cut_ints sub_zero
attribute [local go_sem ↓] xload_vec xstore_vec xalloc_vec xeql_vec xneq_vec xindex_vec xbuild_vec0 xload_rights xstore_rights xalloc_rights xeql_rights xneq_rights xbuild_rights0 xload_vecs xindex_vecs xload_counter xstore_counter xalloc_counter xbuild_counter0 xeql_counter xbuild_counter3
attribute [local go_sem] rowAt_setRow rowAt_setCell load_vec_cut_later load_rights_later load_counter_later Later.cell Later.frozen build3_ints
attribute [local go_sem ↓] xload_field xstore_field xalloc_field xload_lock
attribute [local go_sem] load_field load_field_later store_field load_counter_cut load_lock_cut load_lock_later Fld.size Fld.get0 Fld.get1 Fld.get2 Fld.get586 Fld.getE0 Fld.getE1 Fld.getE2 Fld.getE586 Fld.cut_cnt Fld.cut_lock Fld.cut_all Fld.splice_all strT_size

set_option maxHeartbeats 4000000 in
theorem messageCuts_walk (m : Msg) (cut : Int) (hcut : -9223372036854775808 ≤ cut ∧ cut ≤ 9223372036854775807) (A2 : Option Addr) (c2 : Nat) (l2 : List UInt8) (hm : l2.length ≤ 9223372036854775807 ∧ (A2 = none → c2 = 0 ∧ l2 = []) ∧ l2.length ≤ c2) (w : World) (h : MsgOk w m) (hl : IsBy w A2 l2) :
    Calls Try.prog 4 #[.agg m.cells, .int .i64 cut, .slice A2 l2.length c2] w fun e w' => e = .returned (.bool true) ∧ Below w.heap.size w w' := by
  obtain ⟨b, hb⟩ : ∃ b, few13B m.fn m.fl m.pn m.po = b := ⟨_, rfl⟩
  obtain ⟨R, hR⟩ : ∃ R, rightM m = R := ⟨_, rfl⟩
  have HF := Lib.hid (few14_is (h.below ((Below.refl w.heap.size w).alloc (Nat.le_refl _) (.cells m.cells 26))) hb)
  have HM := Lib.hid h
  have HL := Lib.hid hl
  have HR := Lib.hid hR
  have HLM := Lib.hid hm
  have hl63 := hm.1
  have E1 := Lib.hid (fun (w' : World) (o : MsgOk w' m) (e : rightM m = true) => mencode_ok m w' e o)
  have E0 := Lib.hid (fun (w' : World) (o : MsgOk w' m) (e : rightM m = false) => mencode_no m w' e o)
  clear h hb hR hl hm
  unfold Msg.cells at HF E1 E0 ⊢
  cases b
  · clear HR E1 E0 HLM
    go_enter Try.func4, Try.ntmps4
    go_wp2_with fail
    refine HF.out.mono ?_
    rintro e w1 ⟨rfl, hb⟩
    have r1 : rowAt w1 w.heap.size = some (m.cells, 26) := rowKeep hb (rowAt_alloc_at _ _ _ _ rfl)
    have HB1 := Lib.hid (bthen (below_allocS (Below.refl _ _) _) hb)
    have HO1 := Lib.hid (HM.out.below HB1.out)
    have HL1 := Lib.hid (HL.out.below HB1.out)
    clear hb HF HM HL
    clear r1
    go_wp2_with fail
    refine (awake14 _).mono ?_
    rintro e wz ⟨rfl, hb⟩
    have HBZ := Lib.hid (bthen HB1.out hb)
    clear hb
    go_wp2
    go_ret
    exact ⟨rfl, HBZ.out⟩
  · by_cases hA : l2.length < 1
    · have g1 : decide ((l2.length : Int) < 1) = true := decide_eq_true (by omega)
      have g2 : decide (l2.length < 1) = true := decide_eq_true hA
      clear HR E1 E0 HLM
      go_enter Try.func4, Try.ntmps4
      go_wp2_with fail
      refine HF.out.mono ?_
      rintro e w1 ⟨rfl, hb⟩
      have r1 : rowAt w1 w.heap.size = some (m.cells, 26) := rowKeep hb (rowAt_alloc_at _ _ _ _ rfl)
      have HB1 := Lib.hid (bthen (below_allocS (Below.refl _ _) _) hb)
      have HO1 := Lib.hid (HM.out.below HB1.out)
      have HL1 := Lib.hid (HL.out.below HB1.out)
      clear hb HF HM HL
      clear r1
      go_wp2_with fail
      refine (awake14 _).mono ?_
      rintro e wz ⟨rfl, hb⟩
      have HBZ := Lib.hid (bthen HB1.out hb)
      clear hb
      go_wp2
      go_ret
      exact ⟨rfl, HBZ.out⟩
    · have g1 : decide ((l2.length : Int) < 1) = false := decide_eq_false (by omega)
      have g2 : decide (l2.length < 1) = false := decide_eq_false hA
      by_cases hB : 20 < l2.length
      · have g3 : decide ((20 : Int) < (l2.length : Int)) = true := decide_eq_true (by omega)
        have g4 : decide (20 < l2.length) = true := decide_eq_true hB
        clear HR E1 E0 HLM
        go_enter Try.func4, Try.ntmps4
        go_wp2_with fail
        refine HF.out.mono ?_
        rintro e w1 ⟨rfl, hb⟩
        have r1 : rowAt w1 w.heap.size = some (m.cells, 26) := rowKeep hb (rowAt_alloc_at _ _ _ _ rfl)
        have HB1 := Lib.hid (bthen (below_allocS (Below.refl _ _) _) hb)
        have HO1 := Lib.hid (HM.out.below HB1.out)
        have HL1 := Lib.hid (HL.out.below HB1.out)
        clear hb HF HM HL
        clear r1
        go_wp2_with fail
        refine (awake14 _).mono ?_
        rintro e wz ⟨rfl, hb⟩
        have HBZ := Lib.hid (bthen HB1.out hb)
        clear hb
        go_wp2
        go_ret
        exact ⟨rfl, HBZ.out⟩
      · have g3 : decide ((20 : Int) < (l2.length : Int)) = false := decide_eq_false (by omega)
        have g4 : decide (20 < l2.length) = false := decide_eq_false hB
        go_enter Try.func4, Try.ntmps4
        go_wp2_with fail
        refine HF.out.mono ?_
        rintro e w1 ⟨rfl, hb⟩
        have r1 : rowAt w1 w.heap.size = some (m.cells, 26) := rowKeep hb (rowAt_alloc_at _ _ _ _ rfl)
        have HB1 := Lib.hid (bthen (below_allocS (Below.refl _ _) _) hb)
        have HO1 := Lib.hid (HM.out.below HB1.out)
        have HL1 := Lib.hid (HL.out.below HB1.out)
        clear hb HF HM HL
        have z0 : w1.cell? ⟨w.heap.size, 0, none⟩ = some (.int .i64 m.kind) := by rw [cell_of_rowAt r1]; rfl
        have z1 : w1.cell? ⟨w.heap.size, 1, none⟩ = some (.int .i64 m.frm) := by rw [cell_of_rowAt r1]; rfl
        have z2 : w1.cell? ⟨w.heap.size, 2, none⟩ = some (.int .i64 m.to) := by rw [cell_of_rowAt r1]; rfl
        have z3 : w1.cell? ⟨w.heap.size, 3, none⟩ = some (.int .i64 m.ver) := by rw [cell_of_rowAt r1]; rfl
        have z4 : w1.cell? ⟨w.heap.size, 4, none⟩ = some (.int .i64 m.num) := by rw [cell_of_rowAt r1]; rfl
        have z5 : w1.cell? ⟨w.heap.size, 5, none⟩ = some (.bool m.yes) := by rw [cell_of_rowAt r1]; rfl
        have z6 : w1.cell? ⟨w.heap.size, 6, none⟩ = some (.slice m.fA m.fn m.fc) := by rw [cell_of_rowAt r1]; rfl
        have z7 : w1.cell? ⟨w.heap.size, 7, none⟩ = some (.int .i64 m.pk) := by rw [cell_of_rowAt r1]; rfl
        have z8 : w1.cell? ⟨w.heap.size, 8, none⟩ = some (.string (strT m.pn)) := by rw [cell_of_rowAt r1]; rfl
        have z9 : w1.cell? ⟨w.heap.size, 9, none⟩ = some (.string (strT m.po)) := by rw [cell_of_rowAt r1]; rfl
        have z10 : w1.cell? ⟨w.heap.size, 10, none⟩ = some (.int .i64 m.pa) := by rw [cell_of_rowAt r1]; rfl
        have z11 : w1.cell? ⟨w.heap.size, 11, none⟩ = some (.int .i64 m.pb) := by rw [cell_of_rowAt r1]; rfl
        go_wp2_with fail
        cases R
        · refine (E0.out _ HO1.out HR.out).mono ?_
          rintro e w2 ⟨rfl, hb⟩
          have HB2 := Lib.hid (bthen HB1.out hb)
          clear hb r1 z0 z1 z2 z3 z4 z5 z6 z7 z8 z9 z10 z11
          go_wp2_with fail
          refine (awake14 _).mono ?_
          rintro e wz ⟨rfl, hb⟩
          have HBZ := Lib.hid (bthen HB2.out hb)
          clear hb
          go_wp2
          go_ret
          exact ⟨rfl, HBZ.out⟩
        · refine (E1.out _ HO1.out HR.out).mono ?_
          rintro e w2 ⟨A, c, rfl, hI, hN, -, hXc, hb⟩
          have HB2 := Lib.hid (bthen HB1.out hb)
          have HI := Lib.hid hI
          have HN := Lib.hid hN
          have HL2 := Lib.hid (HL1.out.below hb)
          have hXl := msgW_len HR.out
          clear hb r1 hI hN HB1 HO1 HL1 z0 z1 z2 z3 z4 z5 z6 z7 z8 z9 z10 z11
          obtain ⟨X, hX⟩ : ∃ X, msgW m = X := ⟨_, rfl⟩
          rw [hX] at HI hXc hXl ⊢
          have HX := Lib.hid hX
          clear hX
          by_cases hC : cut < 0
          · have g5 : decide (cut < 0) = true := decide_eq_true hC
            go_wp2_with fail
            refine (awake14 _).mono ?_
            rintro e wz ⟨rfl, hb⟩
            have HBZ := Lib.hid (bthen HB2.out hb)
            clear hb
            go_wp2
            go_ret
            exact ⟨rfl, HBZ.out⟩
          · have g5 : decide (cut < 0) = false := decide_eq_false hC
            by_cases hD : (X.length : Int) ≤ cut
            · have g6 : decide ((X.length : Int) ≤ cut) = true := decide_eq_true hD
              go_wp2_with fail
              refine (awake14 _).mono ?_
              rintro e wz ⟨rfl, hb⟩
              have HBZ := Lib.hid (bthen HB2.out hb)
              clear hb
              go_wp2
              go_ret
              exact ⟨rfl, HBZ.out⟩
            · have g6 : decide ((X.length : Int) ≤ cut) = false := decide_eq_false hD
              obtain ⟨n, rfl⟩ := Int.eq_ofNat_of_zero_le (show 0 ≤ cut by omega)
              have hnl : n < X.length := by omega
              have hnc : n ≤ c := by omega
              have HT := Lib.hid (HI.out.take n)
              have htl : (X.take n).length = n := by rw [List.length_take]; omega
              have HD1 : Hid (∀ (w' : World), IsBy w' A (X.take n) → Calls Try.prog 11 #[.slice A n c] w' (MDec w' true [] m)) := Lib.hid (fun w' hi => by
                have := mdecode_ok m A c (X.take n) [] true w' HR.out hi HN.out (by rw [htl]; omega) ⟨n, by rw [HX.out]; exact hnl, by rw [HX.out]⟩
                rwa [htl] at this)
              clear htl
              go_wp2_with (refine bytes_slice_to rfl _ _ rfl A X.length c n rfl rfl hnc ?_)
              refine (HD1.out _ HT.out).mono ?_
              rintro x w3 ⟨hb, hx, -, -⟩
              rw [hx rfl]
              unfold msgC
              have HB3 := Lib.hid (bthen HB2.out hb)
              have HB3z := HB3.out.size
              have HI3 := Lib.hid (HI.out.below hb)
              have HL3 := Lib.hid (HL2.out.below hb)
              clear hb hx HI HL2 HB2 HT HD1
              go_wp2_with (at_builtin; refine wl_append_bytes rfl _ _ rfl (w3.heap.size + 1) _ [] X A c rfl ?c1 rfl ?c2 HN.out ?c3 ?c4 ?_)
              case c1 => first | exact own_none _ | exact OwnBy.row (xs := []) (rowAt_alloc_at _ _ _ _ (by simp)) (by decide)
              case c2 => exact (HI3.out.alloc _).alloc _
              case c3 => simp; omega
              case c4 => simp
              intro v4 w4 hown hb
              have HO4 := Lib.hid hown
              have hz := hb.size
              have hb1 : Below w3.heap.size w3 w4 := (below_allocS (below_allocS (Below.refl w3.heap.size w3) _) _).trans (hb.mono (by omega))
              have HB4 := Lib.hid (bthen HB3.out hb1)
              have HL4 := Lib.hid (HL3.out.below hb1)
              have hz4 : w3.heap.size + 1 ≤ w4.heap.size := by simp at hz; omega
              clear hown hb hb1 hz HI3 HL3 HB3
              go_wp2_with (at_builtin; refine wl_append_bytes rfl _ _ rfl (w3.heap.size + 1) _ X l2 A2 c2 rfl HO4.out rfl HL4.out (fun h => (HLM.out.2.1 h).1) ?d1 hz4 ?_)
              case d1 => omega
              intro v5 w5 hown hb
              obtain ⟨Y, hY⟩ : ∃ Y, X ++ l2 = Y := ⟨_, rfl⟩
              have hYl : Y.length ≤ 30020 := by rw [← hY, List.length_append]; omega
              rw [hY] at hown
              have HY := Lib.hid hY
              clear hY
              obtain ⟨A5, c5, rfl, i1, i2, i3, -⟩ := hown.isBy
              have HI5 := Lib.hid i1
              have HN5 := Lib.hid i2
              have HB5 := Lib.hid (HB4.out.trans (hb.mono (by have := HB3z; omega)))
              clear hown hb i1 i2 i3 HO4 HB4 HL4
              have hne : l2 ≠ [] := fun h => hA (by rw [h]; decide)
              go_wp2_with fail
              have HD2 := mdecode_ok m A5 c5 Y l2 false w5 HR.out HI5.out HN5.out (Nat.le_trans hYl (by decide)) (by show Y = msgW m ++ l2; rw [HX.out]; exact HY.out.symm)
              refine HD2.mono ?_
              rintro x w6 ⟨hb, -, hx, -⟩
              rw [hx rfl hne]
              unfold msgC
              have HB6 := Lib.hid (bthen HB5.out hb)
              clear hb hx HI5 HN5 HB5
              go_wp2_with fail
              refine (awake14 _).mono ?_
              rintro e wz ⟨rfl, hb⟩
              have HBZ := Lib.hid (bthen (below_allocS HB6.out _) hb)
              clear hb
              go_wp2
              go_ret
              exact ⟨rfl, HBZ.out⟩
end Go.Proofs.Ytmdojegiimhfcaa
