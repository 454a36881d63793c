/-
  Layer 14 (message): a message as bytes.
-/
import Derived.Test.YtlocoieknabiaaaGreatZWEnc
import Derived.Test.YtlocoieknabiaaaGreatZGJ
import Derived.Test.YtlocoieknabiaaaGreatZGA
import Derived.Deep.DeepCutAuto
namespace Go.Proofs.YtlocoieknabiaaaGreat
set_option maxRecDepth 20000
open Go.RowKit
set_option linter.unusedSimpArgs false
set_option linter.unusedVariables false
attribute [local go_sem] rowCells rowAt_drewN get_ints getE_ints set_ints size_ints rowAt_alloc rowAt_drew setRow_alloc setRow_drewN setRow_drew setCell_alloc setCell_drewN splice_upd splice_put splice_all load_vec_cut load_vecs_cut load_rights_cut load_counter store_vec store_rights store_counter eql_vec neq_vec index_vec eql_rights neq_rights eql_counter index_vecs cut_ints sub_zero
attribute [local go_sem ↓] xload_vec xstore_vec xalloc_vec xeql_vec xneq_vec xindex_vec xbuild_vec0 xload_rights xstore_rights xalloc_rights xeql_rights xneq_rights xbuild_rights0 xload_vecs xindex_vecs xload_counter xstore_counter xalloc_counter xbuild_counter0 xeql_counter xbuild_counter3
attribute [local go_sem] rowAt_setRow rowAt_setCell load_vec_cut_later load_rights_later load_counter_later Later.cell Later.frozen build3_ints
attribute [local go_sem ↓] xload_field xstore_field xalloc_field xload_lock
attribute [local go_sem] load_field load_field_later store_field load_counter_cut load_lock_cut load_lock_later Fld.size Fld.get0 Fld.get1 Fld.get2 Fld.get586 Fld.getE0 Fld.getE1 Fld.getE2 Fld.getE586 Fld.cut_cnt Fld.cut_lock Fld.cut_all Fld.splice_all strT_size


/-- What holds behind each operation ahead of the tail may be told more of on the way. -/
theorem tail_more {P : Program} {md : Region.Mode} {ops : Array Oper} {Q : Exit → Act → World → Prop} {S S2 : World → Prop} {m : Nat} (hS : ∀ w, S2 w → S w) : ∀ {fuel : Nat} {listed : Array Bool} {a : Act} {w : World}, wpAnyT P md ops Q S2 m fuel listed a w → wpAnyT P md ops Q S m fuel listed a w
  | 0, _, _, _, h => h
  | _ + 1, _, _, _, h => ⟨h.1, fun i hi => wpOp_mono (fun _ _ h' => ⟨fun him => hS _ (h'.1 him), tail_more hS h'.2⟩) (h.2 i hi)⟩
def txtW (t : List UInt8) : List UInt8 := numB t.length ++ t
def fldsW (v : Int) (L : Nat → Fld) : Nat → List UInt8
  | 0 => []
  | k + 1 => fldsW v L k ++ txtW (fldW v (L k))
def yn (b : Bool) : Int := if b then 1 else 0
def hdL (m : Msg) : List Int := [m.kind, m.frm, m.to, m.ver, m.num, yn m.yes, (m.fn : Int)]
def tlW (m : Msg) : List UInt8 := if m.kind = 2 then catB [m.pk, m.pa, m.pb] ++ txtW m.pn ++ txtW m.po else []
/-- The bytes of a message. -/
def msgW (m : Msg) : List UInt8 := catB (hdL m) ++ fldsW m.ver m.fl m.fn ++ tlW m
theorem fldW_len {v : Int} {F : Fld} (h : rightF F = true) : (fldW v F).length ≤ 5000 := by
  have h1 := preW_len v F (name_len (rightF_name h))
  have h2 := rightF_hn h
  have h3 := catN_len 4 F.lock
  have h4 := catN_len 579 F.cnt
  have h5 := numB_len F.hn
  have h6 := catN_len (5 * F.hn) F.hs
  unfold fldW cntW
  split
  · rw [List.length_append]; omega
  · split <;> simp only [List.length_append, List.length_nil] <;> omega
theorem txtW_len (t : List UInt8) : (txtW t).length ≤ 6 + t.length := by
  have := numB_len t.length
  unfold txtW
  rw [List.length_append]; omega
theorem fldsW_len {v : Int} {L : Nat → Fld} : ∀ k, (∀ i, i < k → rightF (L i) = true) → (fldsW v L k).length ≤ 5006 * k
  | 0, _ => by simp [fldsW]
  | k + 1, h => by
    have h1 := fldsW_len (v := v) k fun i hi => h i (by omega)
    have h2 := txtW_len (fldW v (L k))
    have h3 := fldW_len (v := v) (h k (by omega))
    rw [fldsW, List.length_append]
    omega
theorem right_say {m : Msg} (h : rightM m = true) {i : Nat} (hi : i < m.fn) : sayB m.ver (m.fl i) = true := by
  simp only [rightM, Bool.and_eq_true] at h
  have := h.1.2
  unfold sayAllB at this
  exact List.all_eq_true.1 this i (List.mem_range.2 hi)
theorem right_fn {m : Msg} (h : rightM m = true) : m.fn ≤ 4 := by
  simp only [rightM, hd2B, fldsB, Bool.and_eq_true, decide_eq_true_eq] at h
  exact h.1.1.2.1.2.2
theorem right_plan {m : Msg} (h : rightM m = true) (hk : m.kind = 2) : planB m.pk m.pn m.po m.pa m.pb = true := by
  simp only [rightM, Bool.and_eq_true] at h
  have := h.2
  unfold tlB at this
  split at this
  · cases this
  · split at this
    · cases this
    · rename_i h2
      first | exact this | rwa [if_pos hk] at this
theorem plan_names {k : Int} {n o : List UInt8} {u v : Int} (h : planB k n o u v = true) : n.length ≤ 8 ∧ o.length ≤ 8 := by
  simp only [planB, Bool.and_eq_true] at h
  refine ⟨name_len h.1.1.1.2, ?_⟩
  have := h.2
  unfold ruleB at this
  repeat' split at this
  all_goals simp only [Bool.and_eq_true, noneB, decide_eq_true_eq] at this
  · rw [this.1.1.1]; decide
  · rw [this.1.1]; decide
  · rw [this.1]; decide
  · exact name_len this.1.1.1
  · exact name_len this.1.1.1
theorem say_right {v : Int} {F : Fld} (h : sayB v F = true) : rightF F = true := by
  simp only [sayB, Bool.and_eq_true] at h
  exact h.1.1
theorem cells_list (W : World) (L : List Int) (T : TypeId) {C : Array Value} (hC : C = (L.map (Value.int .i64)).toArray) {q : Nat} (hq : q = W.heap.size) : ∀ k, k < L.length → (W.alloc (.cells C T)).cell? ⟨q, k, none⟩ = some (.int .i64 (L.getD k 0)) := fun k hk => by
  subst hC hq
  rw [cell_of_rowAt (rowAt_alloc_at _ _ _ _ rfl)]
  simp [List.getD, hk]
theorem PB.alloc {w : World} {p B : Nat} {l : List UInt8} (h : PB w p B l) (o : Obj) : PB (w.alloc o) p B l := by
  obtain ⟨A, c, h1, h2, h3, h4, h5⟩ := h
  exact ⟨A, c, rowPast h1, h2.alloc o, h3, h4, h5⟩
theorem PB.below {w w' : World} {p B : Nat} {l : List UInt8} (h : PB w p B l) (hb : Below w.heap.size w w') : PB w' p B l := by
  obtain ⟨A, c, h1, h2, h3, h4, h5⟩ := h
  exact ⟨A, c, rowKeep hb h1, h2.below hb, h3, h4, h5⟩
theorem PB.empty {w : World} {p B : Nat} (h : rowAt w p = some (#[.slice none 0 0], 60)) : PB w p B [] := ⟨none, 0, h, IsBy.nil _ _, fun _ => rfl, fun _ h => (by cases h), Nat.le_refl _⟩
set_option maxHeartbeats 4000000 in
theorem mencode_ok (m : Msg) (w : World) (hr : rightM m = true) (hm : MsgOk w m) :
    Calls Tryz.prog 20 #[.agg m.cells] w fun e w' => ∃ A c, e = .returned (.tuple #[.slice A (msgW m).length c, .int .i64 0]) ∧ IsBy w' A (msgW m) ∧ (A = none → c = 0) ∧ (∀ x, A = some x → w.heap.size ≤ x.block) ∧ (msgW m).length ≤ c ∧ Below w.heap.size w w' := by
  have HSAY := Lib.hid (fun i (hi : i < m.fn) => right_say hr hi)
  have hfn := right_fn hr
  have HPL := Lib.hid (fun hk => plan_names (right_plan hr hk))
  have HM := Lib.hid hm
  have C1 := Lib.hid (fun (w' : World) (h : MsgOk w' m) => mright_is hr h)
  have hbig := Nat.le_trans hm.le hm.big.2.2
  clear hr hm
  unfold Msg.cells at C1 ⊢
  go_enter Tryz.func20, Tryz.ntmps20
  go_wp2_with fail
  refine (C1.out _ (HM.out.below ((Below.refl _ _).alloc (Nat.le_refl _) _))).mono ?_
  rintro e w1 ⟨rfl, hb⟩
  obtain ⟨g, hg⟩ : ∃ g, w.heap.size = g := ⟨_, rfl⟩
  have r1 : rowAt w1 g = some (m.cells, 34) := by rw [← hg]; exact rowKeep hb (rowAt_alloc_at _ _ _ _ rfl)
  have HB1 := Lib.hid (bthen (below_allocS (Below.refl _ _) _) hb)
  have n1 := rowAt_lt r1
  clear hb C1
  have k0 : w1.cell? ⟨g, 0, none⟩ = some (.int .i64 m.kind) := by rw [cell_of_rowAt r1]; rfl
  have k1 : w1.cell? ⟨g, 1, none⟩ = some (.int .i64 m.frm) := by rw [cell_of_rowAt r1]; rfl
  have k2 : w1.cell? ⟨g, 2, none⟩ = some (.int .i64 m.to) := by rw [cell_of_rowAt r1]; rfl
  have k3 : w1.cell? ⟨g, 3, none⟩ = some (.int .i64 m.ver) := by rw [cell_of_rowAt r1]; rfl
  have k4 : w1.cell? ⟨g, 4, none⟩ = some (.int .i64 m.num) := by rw [cell_of_rowAt r1]; rfl
  have k5 : w1.cell? ⟨g, 5, none⟩ = some (.bool m.yes) := by rw [cell_of_rowAt r1]; rfl
  have k6 : w1.cell? ⟨g, 6, none⟩ = some (.slice m.fA m.fn m.fc) := by rw [cell_of_rowAt r1]; rfl
  have hmf : ∀ (fn : Fn) (first cap : Array Value) (w : World), (Instr.makeFunc fn first cap).run Tryz.prog w = .ok (.func fn first cap) w := fun _ _ _ _ => rfl
  obtain ⟨y, hy⟩ : ∃ y, m.yes = y := ⟨_, rfl⟩
  go_upto_if 16 with fail
  go_cut [6] (fun u wx => u = .int .i64 (yn y) ∧ wx = w1.alloc (.cells #[.slice none 0 0] 60))
  case first =>
    cases y
    · go_wp2_with fail
      go_meet
      exact ⟨rfl, rfl⟩
    · go_wp2_with fail
      go_meet
      exact ⟨rfl, rfl⟩
  case rest =>
    obtain ⟨rfl, hwc⟩ := hcut
    have r2 : rowAt wc g = some (m.cells, 34) := by rw [hwc]; exact rowPast r1
    have q2 : rowAt wc w1.heap.size = some (#[.slice none 0 0], 60) := by rw [hwc]; exact rowAt_alloc_at _ _ _ _ rfl
    have HB2 : Hid (Below w.heap.size w wc) := Lib.hid (by rw [hwc]; exact below_allocS HB1.out _)
    obtain ⟨p, hp⟩ : ∃ p, w1.heap.size = p := ⟨_, rfl⟩
    have HP := Lib.hid (PB.empty (B := w.heap.size) q2)
    have HHD : Hid (hdL m = [m.kind, m.frm, m.to, m.ver, m.num, yn y, (m.fn : Int)]) := Lib.hid (by rw [hdL, hy])
    rw [hp] at n1 HP
    clear hwc r1 HB1 k0 k1 k2 k3 k4 k5 k6 hy q2
    have HR2 := Lib.hid r2
    have k0 : wc.cell? ⟨g, 0, none⟩ = some (.int .i64 m.kind) := by rw [cell_of_rowAt r2]; rfl
    have k1 : wc.cell? ⟨g, 1, none⟩ = some (.int .i64 m.frm) := by rw [cell_of_rowAt r2]; rfl
    have k2 : wc.cell? ⟨g, 2, none⟩ = some (.int .i64 m.to) := by rw [cell_of_rowAt r2]; rfl
    have k3 : wc.cell? ⟨g, 3, none⟩ = some (.int .i64 m.ver) := by rw [cell_of_rowAt r2]; rfl
    have k4 : wc.cell? ⟨g, 4, none⟩ = some (.int .i64 m.num) := by rw [cell_of_rowAt r2]; rfl
    have k6 : wc.cell? ⟨g, 6, none⟩ = some (.slice m.fA m.fn m.fc) := by rw [cell_of_rowAt r2]; rfl
    clear r2
    go_wp2_with fail
    have hgp : g ≠ p := by omega
    have hpl := HP.out
    have hpc : p < wc.heap.size := by obtain ⟨_, _, h, _⟩ := hpl; exact rowAt_lt h
    clear hpl
    refine (put_any _ p 7 w.heap.size [m.kind, m.frm, m.to, m.ver, m.num, yn y, (m.fn : Int)] [] _ ?c1 rfl (cells_list _ _ _ rfl rfl) ?c3 (HP.out.alloc _) ?c2).mono ?_
    case c1 => omega
    case c3 => simp
    case c2 => have := HB2.out.size; simp; omega
    rintro e w3 ⟨rfl, hpb, ho⟩
    rw [List.nil_append, ← HHD.out] at hpb
    have HP3 := Lib.hid hpb
    have hr3 := ho.row hgp (rowPast HR2.out)
    have HR3 := Lib.hid hr3
    have HB3 : Hid (Below w.heap.size w w3) := Lib.hid ((below_allocS HB2.out _).trans (ho.2.1.mono (by omega)))
    have k6 : w3.cell? ⟨g, 6, none⟩ = some (.slice m.fA m.fn m.fc) := by rw [cell_of_rowAt hr3]; rfl
    have hp3 : p < w3.heap.size := by have := ho.1; simp at this; omega
    clear hpb ho hr3 HP HR2 HB2 k0 k1 k2 k3 k4 HHD
    go_wp2_with fail
    go_loopw [37] (fun i w' => ∃ k : Nat, k ≤ m.fn ∧ i = .int .i64 k ∧ PB w' p w.heap.size (catB (hdL m) ++ fldsW m.ver m.fl k) ∧ rowAt w' g = some (m.cells, 34) ∧ Below w.heap.size w w') (fun i _ => m.fn - (intOf i).toNat)
    case atStart => exact ⟨0, Nat.zero_le _, rfl, by rw [fldsW, List.append_nil]; exact HP3.out, HR3.out, HB3.out⟩
    case round =>
      rename World => wr
      obtain ⟨k, hk, rfl, hpb, hrr, hb⟩ := hrel
      have HPB := Lib.hid hpb
      have HRR := Lib.hid hrr
      have HBR := Lib.hid hb
      have hXL : (catB (hdL m) ++ fldsW m.ver m.fl k).length ≤ 70368744170000 := by
        have h1 := catB_len (hdL m)
        have h2 := fldsW_len (v := m.ver) (L := m.fl) k fun i hi => say_right (HSAY.out i (by omega))
        have h3 : (hdL m).length = 7 := rfl
        rw [List.length_append]; omega
      have HXL := Lib.hid hXL
      clear HP3 HR3 HB3 k6 hXL hpb
      by_cases hlt : k < m.fn
      · obtain ⟨b, o, hA, hlb, hnm, hl⟩ := (HM.out.flds.below hb).at_ hlt
        have hl1 := hl wr (Below.refl _ _)
        have k3 : wr.cell? ⟨g, 3, none⟩ = some (.int .i64 m.ver) := by rw [cell_of_rowAt hrr]; rfl
        have HK := Lib.hid ((HM.out.flds.below hb).ok k hlt)
        have HS : Hid (fldsW m.ver m.fl (k + 1) = fldsW m.ver m.fl k ++ txtW (fldW m.ver (m.fl k))) := Lib.hid rfl
        have HSK := Lib.hid (HSAY.out k hlt)
        have HTL := Lib.hid (fldW_len (v := m.ver) (say_right (HSAY.out k hlt)))
        generalize m.fl k = G at *
        have hgr := rowAt_lt hrr
        rw [hA]
        clear hl hb hA hrr hnm
        go_wp2_with fail
        refine (wencode_ok m.ver G _ HSK.out (HK.out.below ((Below.refl _ _).alloc (Nat.le_refl _) _))).mono ?_
        rintro e w4 ⟨u4, rfl, hown, hb⟩
        obtain ⟨A4, c4, rfl, i1, i2, i3, i4⟩ := hown.isBy
        have hcv : (convert 60 9 (.slice A4 (fldW m.ver G).length c4)).run Tryz.prog w4 = .ok (.string (strB (fldW m.ver G))) w4 := conv_bytes i1
        have hb4 := bthen (below_allocS (Below.refl _ _) _) hb
        have hp4 := HPB.out.below hb4
        have HR4 := Lib.hid (rowKeep hb4 HRR.out)
        have HB4 := Lib.hid (bthen HBR.out hb4)
        generalize hX : catB (hdL m) ++ fldsW m.ver m.fl k = X at *
        have HX := Lib.hid hX
        obtain ⟨Ap, cp, hrp, j1, j2, j3, j4⟩ := hp4
        have hc2 : w4.cell? ⟨p, 0, none⟩ = some (.slice Ap X.length cp) := by rw [cell_of_rowAt hrp]; rfl
        have HRP := Lib.hid hrp
        have J1 := Lib.hid j1
        have J2 := Lib.hid j2
        clear hown hb i1 i2 i3 i4 hb4 hX hrp j1 j2 j3 j4 HPB HRR HBR k3 hl1
        go_wp2_with fail
        refine (text_any Ap cp X (fldW m.ver G) _ J1.out J2.out (Nat.le_trans HXL.out (by decide)) (Nat.le_trans HTL.out (by decide))).mono ?_
        rintro e w5 ⟨u5, rfl, hown, hb⟩
        generalize hY : X ++ (numB (fldW m.ver G).length ++ fldW m.ver G) = Y at *
        have HY := Lib.hid hY
        obtain ⟨A5, c5, rfl, i1, i2, i3, i4⟩ := hown.isBy
        have hrp := rowKeep hb HRP.out
        have hfz := frozen_of_rowAt hrp 0
        have hc3 : w5.cell? ⟨p, 0, none⟩ = some (.slice Ap X.length cp) := by rw [cell_of_rowAt hrp]; rfl
        have HW : Hid (PB (w5.setCell ⟨p, 0, none⟩ (.slice A5 Y.length c5)) p w.heap.size Y ∧ rowAt (w5.setCell ⟨p, 0, none⟩ (.slice A5 Y.length c5)) g = some (m.cells, 34) ∧ Below w.heap.size w (w5.setCell ⟨p, 0, none⟩ (.slice A5 Y.length c5))) :=
          Lib.hid ⟨PB.set hrp i1 i2 (fun x hx => by have := (i4 x hx).1; have := rowAt_lt HRP.out; have := HB4.out.size; omega) i3, by rw [rowAt_setCell, if_neg hgp]; exact rowKeep hb HR4.out, below_setCell' (bthen HB4.out hb) (by omega)⟩
        clear hown hb i1 i2 i3 i4 hrp hc2 hcv hY J1 J2 HRP HR4 HB4
        go_wp2_with fail
        go_roundw
        case rel => exact ⟨k + 1, by omega, by go_num, by rw [HS.out, ← List.append_assoc, HX.out, txtW, HY.out]; exact HW.out.1, HW.out.2.1, HW.out.2.2⟩
        case measure => simp [intOf]; omega
      · obtain rfl : k = m.fn := by omega
        clear HM HSAY
        have k0 : wr.cell? ⟨g, 0, none⟩ = some (.int .i64 m.kind) := by rw [cell_of_rowAt hrr]; rfl
        have hpc2 : p < wr.heap.size := by obtain ⟨_, _, h, _⟩ := HPB.out; exact rowAt_lt h
        by_cases hk2 : m.kind = 2
        · have k7 : wr.cell? ⟨g, 7, none⟩ = some (.int .i64 m.pk) := by rw [cell_of_rowAt hrr]; rfl
          have k10 : wr.cell? ⟨g, 10, none⟩ = some (.int .i64 m.pa) := by rw [cell_of_rowAt hrr]; rfl
          have k11 : wr.cell? ⟨g, 11, none⟩ = some (.int .i64 m.pb) := by rw [cell_of_rowAt hrr]; rfl
          have HMW : Hid (msgW m = catB (hdL m) ++ fldsW m.ver m.fl m.fn ++ catB [m.pk, m.pa, m.pb] ++ (numB m.pn.length ++ m.pn) ++ (numB m.po.length ++ m.po)) := Lib.hid (by unfold msgW tlW; rw [if_pos hk2]; simp only [txtW, List.append_assoc])
          have hpn : m.pn.length ≤ 70368744177000 := Nat.le_trans (HPL.out hk2).1 (by decide)
          have hpo : m.po.length ≤ 70368744177000 := Nat.le_trans (HPL.out hk2).2 (by decide)
          have hkb : (m.kind == 2) = true := by simp [hk2]
          have HPN := Lib.hid (HPL.out hk2)
          clear hk2 hb hrr
          go_wp2_with fail
          refine (put_any _ p 3 w.heap.size [m.pk, m.pa, m.pb] (catB (hdL m) ++ fldsW m.ver m.fl m.fn) _ ?c1 rfl (cells_list _ _ _ rfl rfl) ?c3 (HPB.out.alloc _) ?c2).mono ?_
          case c1 => omega
          case c3 => have := HXL.out; simp only [List.length_cons, List.length_nil]; omega
          case c2 => have := HBR.out.size; simp; omega
          rintro e w4 ⟨rfl, hpb, ho⟩
          have hXL : (catB (hdL m) ++ fldsW m.ver m.fl m.fn ++ catB [m.pk, m.pa, m.pb]).length ≤ 70368744170100 := by
            have := HXL.out
            have h2 := catB_len [m.pk, m.pa, m.pb]
            simp only [List.length_cons, List.length_nil] at h2
            rw [List.length_append]; omega
          obtain ⟨X, hX⟩ : ∃ X, catB (hdL m) ++ fldsW m.ver m.fl m.fn ++ catB [m.pk, m.pa, m.pb] = X := ⟨_, rfl⟩
          rw [hX] at hpb hXL HMW
          clear hX
          have hXL2 : (X ++ (numB m.pn.length ++ m.pn)).length ≤ 70368744177000 := by
            have := numB_len m.pn.length
            have := (show m.pn.length ≤ 1000 from Nat.le_trans (HPN.out).1 (by decide))
            simp only [List.length_append]; omega
          have HXL1 := Lib.hid (Nat.le_trans hXL (show 70368744170100 ≤ 70368744177000 by decide))
          have HXL2 := Lib.hid hXL2
          obtain ⟨A0, c0, q1, q2, q3, q4, q5⟩ := hpb
          have hr4 := ho.row hgp (rowPast HRR.out)
          have HS0 : Hid (rowAt w4.drew p = some (#[.slice A0 X.length c0], 60) ∧ rowAt w4.drew g = some (m.cells, 34) ∧ Hid (IsBy w4.drew A0 X) ∧ Hid (Below w.heap.size w w4.drew)) := Lib.hid ⟨q1, hr4, Lib.hid (q2.below (Below.refl _ _).drew), Lib.hid (((below_allocS HBR.out _).trans (ho.2.1.mono (by omega))).drew)⟩
          have HN0 := Lib.hid q3
          clear ho hr4 q1 q2 q3 q4 q5 hXL hXL2 HPB HRR HBR k0 k7 k10 k11
          go_upto_region 17 with fail
          refine wp_region_tail_drew (S := fun w' : World => rowAt w' p = some (#[.slice A0 X.length c0], 60) ∧ rowAt w' g = some (m.cells, 34) ∧ Hid (IsBy w' A0 X) ∧ Hid (Below w.heap.size w w')) (m := 9) (by kernel_rfl) HS0.out (fun hS => ?_)
          clear HS0
          generalize HW7 : World.drew _ = W7 at *
          clear HW7
          refine tail_take (i := 0) (by simp only [List.getElem?_toArray, List.getElem?_cons_succ, List.getElem?_cons_zero]; rfl) (by decide +kernel) (by decide) (by decide +kernel) (by decide +kernel) (by decide +kernel) (by exact fun _ _ _ _ h => h) hS (by rfl) ?_
          apply Exists.intro
          refine ⟨fun w' hSw => ?_, ?_⟩
          · obtain ⟨q_pl, _, _, _⟩ := hSw
            have q1 : w'.cell? ⟨p, 0, none⟩ = some (.slice A0 X.length c0) := by rw [cell_of_rowAt q_pl]; rfl
            go_simp
            with_reducible rfl
          (try simp only [act_put, act_put_none, List.set_cons_zero, List.set_cons_succ])
          refine tail_take (i := 1) (by simp only [List.getElem?_toArray, List.getElem?_cons_succ, List.getElem?_cons_zero]; rfl) (by decide +kernel) (by decide) (by decide +kernel) (by decide +kernel) (by decide +kernel) (by exact fun _ _ _ _ h => h) hS (by rfl) ?_
          apply Exists.intro
          refine ⟨fun w' hSw => ?_, ?_⟩
          · go_simp
            with_reducible rfl
          (try simp only [act_put, act_put_none, List.set_cons_zero, List.set_cons_succ])
          refine tail_take (i := 2) (by simp only [List.getElem?_toArray, List.getElem?_cons_succ, List.getElem?_cons_zero]; rfl) (by decide +kernel) (by decide) (by decide +kernel) (by decide +kernel) (by decide +kernel) (by exact fun _ _ _ _ h => h) hS (by rfl) ?_
          apply Exists.intro
          refine ⟨fun w' hSw => ?_, ?_⟩
          · go_simp
            with_reducible rfl
          (try simp only [act_put, act_put_none, List.set_cons_zero, List.set_cons_succ])
          refine tail_take (i := 3) (by simp only [List.getElem?_toArray, List.getElem?_cons_succ, List.getElem?_cons_zero]; rfl) (by decide +kernel) (by decide) (by decide +kernel) (by decide +kernel) (by decide +kernel) (by exact fun _ _ _ _ h => h) hS (by rfl) ?_
          apply Exists.intro
          refine ⟨fun w' hSw => ?_, ?_⟩
          · obtain ⟨_, q_row, _, _⟩ := hSw
            have q1 : w'.cell? ⟨g, 8, none⟩ = some (.string (strT m.pn)) := by rw [cell_of_rowAt q_row]; rfl
            go_simp
            with_reducible rfl
          (try simp only [act_put, act_put_none, List.set_cons_zero, List.set_cons_succ])
          refine tail_take (i := 5) (by simp only [List.getElem?_toArray, List.getElem?_cons_succ, List.getElem?_cons_zero]; rfl) (by decide +kernel) (by decide) (by decide +kernel) (by decide +kernel) (by decide +kernel) (by exact fun _ _ _ _ h => h) hS (by rfl) ?_
          apply Exists.intro
          refine ⟨fun w' hSw => ?_, ?_⟩
          · go_simp
            with_reducible rfl
          (try simp only [act_put, act_put_none, List.set_cons_zero, List.set_cons_succ])
          refine tail_take (i := 6) (by simp only [List.getElem?_toArray, List.getElem?_cons_succ, List.getElem?_cons_zero]; rfl) (by decide +kernel) (by decide) (by decide +kernel) (by decide +kernel) (by decide +kernel) (by exact fun _ _ _ _ h => h) hS (by rfl) ?_
          apply Exists.intro
          refine ⟨fun w' hSw => ?_, ?_⟩
          · go_simp
            with_reducible rfl
          (try simp only [act_put, act_put_none, List.set_cons_zero, List.set_cons_succ])
          refine tail_take (i := 7) (by simp only [List.getElem?_toArray, List.getElem?_cons_succ, List.getElem?_cons_zero]; rfl) (by decide +kernel) (by decide) (by decide +kernel) (by decide +kernel) (by decide +kernel) (by exact fun _ _ _ _ h => h) hS (by rfl) ?_
          apply Exists.intro
          refine ⟨fun w' hSw => ?_, ?_⟩
          · obtain ⟨_, q_row, _, _⟩ := hSw
            have q1 : w'.cell? ⟨g, 9, none⟩ = some (.string (strT m.po)) := by rw [cell_of_rowAt q_row]; rfl
            go_simp
            with_reducible rfl
          (try simp only [act_put, act_put_none, List.set_cons_zero, List.set_cons_succ])
          refine wpAnyT_ready (rs := [4]) (by decide +kernel) (by simp) ?_
          refine AllReadyT.cons (i := 4) (by simp only [List.getElem?_toArray, List.getElem?_cons_succ, List.getElem?_cons_zero]; rfl) (fun K hK => ?_) ?_
          · go_simp
            go_at_call 36
            refine (text_at A0 c0 X m.pn _ (Hid.out hS.2.2.1) HN0.out HXL1.out hpn rfl).mono ?_
            rintro e w6 ⟨va, rfl, hown, HX⟩
            generalize hY1 : X ++ (numB m.pn.length ++ m.pn) = Y1 at hown HMW HXL2
            clear hY1
            obtain ⟨A1, c1, rfl, i1, i2, _, _⟩ := hown.isBy
            have HO := Lib.hid i1
            have HN1 := Lib.hid i2
            clear hown i1 i2
            go_simp
            refine hK.out _ _ ⟨rowKeep HX hS.1, rowKeep HX hS.2.1, Lib.hid ((Hid.out hS.2.2.1).below HX), Lib.hid (bthen (Hid.out hS.2.2.2) HX)⟩ (fun hS2 => ?_)
            clear hS hK K
            have hS := hS2
            clear hS2
            clear HX
            (try simp only [act_put, act_put_none, List.set_cons_zero, List.set_cons_succ])
            have hS := And.intro (HO) hS
            refine tail_more (S2 := fun w' : World => Hid (IsBy w' A1 Y1) ∧ rowAt w' p = some (#[.slice A0 X.length c0], 60) ∧ rowAt w' g = some (m.cells, 34) ∧ Hid (IsBy w' A0 X) ∧ Hid (Below w.heap.size w w')) (fun _ h => h.2) ?_
            refine wpAnyT_ready (rs := [8]) (by decide +kernel) (by simp) ?_
            refine AllReadyT.cons (i := 8) (by simp only [List.getElem?_toArray, List.getElem?_cons_succ, List.getElem?_cons_zero]; rfl) (fun K hK => ?_) ?_
            · go_simp
              go_at_call 36
              refine (text_at A1 c1 Y1 m.po _ (Hid.out hS.1) HN1.out HXL2.out hpo rfl).mono ?_
              rintro e w7 ⟨vb, rfl, hown, HX⟩
              generalize hY2 : Y1 ++ (numB m.po.length ++ m.po) = Y2 at hown HMW
              clear hY2
              obtain ⟨A2, c2, rfl, i1, i2, i3, i4⟩ := hown.isBy
              have HO := Lib.hid i1
              have HN2 := Lib.hid i2
              have HC2 := Lib.hid i3
              have HA2 := Lib.hid i4
              have HPS := Lib.hid (rowAt_lt hS.2.1)
              clear hown i1 i2 i3 i4
              go_simp
              refine hK.out _ _ ⟨Lib.hid ((Hid.out hS.1).below HX), rowKeep HX hS.2.1, rowKeep HX hS.2.2.1, Lib.hid ((Hid.out hS.2.2.2.1).below HX), Lib.hid (bthen (Hid.out hS.2.2.2.2) HX)⟩ (fun hS2 => ?_)
              clear hS hK K
              have hS := hS2
              clear hS2
              clear HX
              (try simp only [act_put, act_put_none, List.set_cons_zero, List.set_cons_succ])
              have hS := And.intro (HO) hS
              refine tail_more (S2 := fun w' : World => Hid (IsBy w' A2 Y2) ∧ Hid (IsBy w' A1 Y1) ∧ rowAt w' p = some (#[.slice A0 X.length c0], 60) ∧ rowAt w' g = some (m.cells, 34) ∧ Hid (IsBy w' A0 X) ∧ Hid (Below w.heap.size w w')) (fun _ h => h.2) ?_
              refine wpAnyT_ready (rs := [9]) (by decide +kernel) (by simp) ?_
              refine AllReadyT.last (i := 9) (by simp only [List.getElem?_toArray, List.getElem?_cons_succ, List.getElem?_cons_zero]; rfl) (by decide) (fun K hK => ?_) ?_
              · have hpl := hS.2.2.1
                have HT2 := hS.1
                have HBB := hS.2.2.2.2.2
                have hrow := hS.2.2.2.1
                clear hS
                have fz := frozen_of_rowAt hpl 0
                have z1 : w7.cell? ⟨p, 0, none⟩ = some (.slice A0 X.length c0) := by rw [cell_of_rowAt hpl]; rfl
                go_simp
                refine hK.out _ _ ?_
                clear hK K
                (try simp only [act_put, act_put_none, List.set_cons_zero, List.set_cons_succ])
                refine wpAnyT_done (by decide +kernel) ?_ _
                have HPB2 : Hid (PB (w7.setCell ⟨p, 0, none⟩ (.slice A2 Y2.length c2)) p w.heap.size Y2 ∧ Below w.heap.size w (w7.setCell ⟨p, 0, none⟩ (.slice A2 Y2.length c2))) :=
                  Lib.hid ⟨PB.set hpl HT2.out HN2.out (fun x hx => by have := (HA2.out x hx).1; have := HPS.out; omega) HC2.out, below_setCell' HBB.out (by omega)⟩
                clear z1 fz hpl HT2 HBB hrow
                generalize w7.setCell ⟨p, 0, none⟩ (.slice A2 Y2.length c2) = wz at *
                obtain ⟨⟨Az, cz, q1, q2, q3, q4, q5⟩, hbz⟩ := HPB2.out
                have kp : wz.cell? ⟨p, 0, none⟩ = some (.slice Az Y2.length cz) := by rw [cell_of_rowAt q1]; rfl
                have HI0 := Lib.hid q2
                have HN9 := Lib.hid q3
                have H40 := Lib.hid q4
                have H50 := Lib.hid q5
                have HBZ := Lib.hid hbz
                clear q1 q2 q3 q4 q5 hbz HPB2
                go_wp2_with fail
                go_ret2
                exact ⟨Az, cz, by rw [HMW.out]; rfl, by rw [HMW.out]; exact HI0.out, HN9.out, fun x hx => (H40.out x hx).2, by rw [HMW.out]; exact H50.out, HBZ.out⟩
              exact AllReadyT.nil
            exact AllReadyT.nil
          exact AllReadyT.nil
        · have HMW : Hid (msgW m = catB (hdL m) ++ fldsW m.ver m.fl m.fn) := Lib.hid (by unfold msgW tlW; rw [if_neg hk2, List.append_nil])
          have hkb : (m.kind == 2) = false := by simp [hk2]
          obtain ⟨A0, c0, q1, q2, q3, q4, q5⟩ := HPB.out
          have HI0 := Lib.hid q2
          have HN0 := Lib.hid q3
          have H40 := Lib.hid q4
          have H50 := Lib.hid q5
          have kp : wr.cell? ⟨p, 0, none⟩ = some (.slice A0 (catB (hdL m) ++ fldsW m.ver m.fl m.fn).length c0) := by rw [cell_of_rowAt q1]; rfl
          clear hk2 q1 q2 q3 q4 q5 hb hrr HPB HRR
          generalize catB (hdL m) ++ fldsW m.ver m.fl m.fn = X at *
          go_wp2_with fail
          go_ret2
          exact ⟨A0, c0, by rw [HMW.out]; rfl, by rw [HMW.out]; exact HI0.out, HN0.out, fun x hx => (H40.out x hx).2, by rw [HMW.out]; exact H50.out, HBR.out⟩
end Go.Proofs.YtlocoieknabiaaaGreat
