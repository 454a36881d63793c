/-
  The walk of WlogPlays.
-/
import Derived.Test.YtfnbcafilbafgaaDoorWlogPW
import Derived.Deep.CutRange
import Derived.Deep.CutBlock
namespace Go.Proofs.YtfnbcafilbafgaaDoor
open Go.RowKit
set_option linter.unusedSimpArgs false
set_option linter.unusedVariables false
attribute [local go_sem] rowCells rowAt_alloc rowAt_drew rowAt_setRow rowAt_setCell setRow_alloc load_rlog store_rlog cut2l splice2l load_do12 store_do12 cut4l splice4l Later.cell
attribute [local go_sem ↓] xstore_rlog xload_rlog xalloc_rlog xload_do12 xstore_do12 xalloc_do12
set_option maxRecDepth 20000 in
set_option maxHeartbeats 8000000 in
theorem wlogPlays_walk (n : Int) (hn : -9223372036854775808 ≤ n ∧ n ≤ 9223372036854775807) (A : Option Addr) (c L : Nat) (E : Nat → Stp) (hm : L ≤ 9223372036854775807 ∧ (A = none → c = 0 ∧ L = 0) ∧ L ≤ c) (hzs : ∀ i, i < L → (E i).t.length ≤ 140737488351232) (w : World) (hN : Nib w) (hS : Steps w A L E) :
    Calls Tryd.prog 8 #[.int .i64 n, .slice A L c] w fun e w' => e = .returned (.bool true) ∧ Below w.heap.size w w' := by
  obtain ⟨hm1, hm2, hm3⟩ := hm
  have HN := Lib.hid hN
  have HS := Lib.hid hS
  have HZS := Lib.hid hzs
  have HFW := Lib.hid (few12_any n hn A c L E hm1 hm3 w hS)
  clear hN hS hm2 hzs
  go_enter Tryd.func8, Tryd.ntmps8
  go_wp2_with fail
  refine HFW.out.mono ?_
  rintro e w0 ⟨fb, rfl, hfb, hb⟩
  have HB0 := Lib.hid hb
  have HN0 := Lib.hid (HN.out.below hb)
  have HFB := Lib.hid hfb
  clear hb hfb HFW
  cases fb with
  | false =>
    go_wp2_with fail
    refine (awake12 w0 HN0.out).mono ?_
    rintro e w9 ⟨rfl, hb9⟩
    have HB9 := Lib.hid (bthen HB0.out hb9)
    clear hb9
    go_wp2_with fail
    go_ret
    exact ⟨rfl, HB9.out⟩
  | true =>
    obtain ⟨hL, hE, hn0, hn1⟩ := HFB.out rfl
    have HE := Lib.hid hE
    obtain ⟨N, rfl⟩ : ∃ N : Nat, n = N := ⟨n.toNat, by omega⟩
    clear hE HFB
    go_wp2_with fail
    refine (dnew_any N (by omega) (by omega) w0).mono ?_
    rintro e w1 ⟨p, rfl, hd, hp, hb⟩
    rw [Int.mul_comm] at hd
    have HB1 := Lib.hid (bthen HB0.out hb)
    have HD1 := Lib.hid hd
    have HN1 := Lib.hid (HN0.out.below hb)
    have hp' : w.heap.size ≤ p := Nat.le_trans HB0.out.size hp
    clear hd hb
    go_wp2_with fail
    refine (wopen_ok (base := w.heap.size) HD1.out HN1.out (by decide) scan_nil.1 scan_nil.2 hp' HB1.out.size).mono ?_
    rintro e w2 ⟨q0, rfl, hg, hb, _, _⟩
    have HB2 := Lib.hid (HB1.out.trans hb)
    have HG2 := Lib.hid (show LG w.heap.size w2 q0 p ((64 : Int) * N) (flatP []) ((flatP []).length : Nat) [] from hg)
    clear hg hb HD1
    have hs64 : (0 : Int) ≤ 64 * (N : Int) ∧ (64 : Int) * (N : Int) ≤ 1048576 := by omega
    go_wp2_with fail
    obtain ⟨gr, hgr⟩ : ∃ gr, w2.heap.size = gr := ⟨_, rfl⟩
    have HPW : Hid (PW w.heap.size gr p (64 * (N : Int)) (w2.alloc (.cells #[.int .i64 (64 * (N : Int)), .slice none 0 0] 51)) q0 []) := Lib.hid (by rw [← hgr]; exact PW.first HG2.out HB2.out.size)
    have HB3 := Lib.hid (below_allocS HB2.out (.cells #[.int .i64 (64 * (N : Int)), .slice none 0 0] 51))
    have HGR : Hid (w.heap.size ≤ gr) := Lib.hid (by rw [← hgr]; exact HB2.out.size)
    have HGR : Hid (w.heap.size ≤ gr) := Lib.hid (by rw [← hgr]; exact HB2.out.size)
    have HGR : Hid (w.heap.size ≤ gr) := Lib.hid (by rw [← hgr]; exact HB2.out.size)
    have HGR : Hid (w.heap.size ≤ gr) := Lib.hid (by rw [← hgr]; exact HB2.out.size)
    have HGR : Hid (w.heap.size ≤ gr) := Lib.hid (by rw [← hgr]; exact HB2.out.size)
    have HGR : Hid (w.heap.size ≤ gr) := Lib.hid (by rw [← hgr]; exact HB2.out.size)
    have HGR : Hid (w.heap.size ≤ gr) := Lib.hid (by rw [← hgr]; exact HB2.out.size)
    have HGR : Hid (w.heap.size ≤ gr) := Lib.hid (by rw [← hgr]; exact HB2.out.size)
    rw [hgr]
    clear hgr HG2
    generalize w2.alloc (.cells #[.int .i64 (64 * (N : Int)), .slice none 0 0] 51) = w3 at *
    go_loopw [6, 42] (fun x i w' => ∃ (k q : Nat) (rs : List (List UInt8)), k ≤ L ∧ i = .int .i64 k ∧ x = .pointer (some ⟨q, 0, none⟩) ∧ PW w.heap.size gr p (64 * (N : Int)) w' q rs ∧ rs.length ≤ k ∧ (∀ t, t ∈ rs → t.length ≤ 300) ∧ ((flatP rs).length : Int) ≤ 64 * (N : Int) ∧ Below w.heap.size w w') (fun _ i _ => L - (intOf i).toNat)
    case atStart => exact ⟨0, q0, [], Nat.zero_le _, rfl, rfl, HPW.out, Nat.le_refl _, fun t ht => by simp at ht, by simp [flatP]; omega, HB3.out⟩
    case round =>
      rename World => wr
      obtain ⟨k, q, rs, hk, rfl, rfl, hpw, hrk, hr3, hfs, hb⟩ := hrel
      have HP := Lib.hid hpw
      have HB := Lib.hid hb
      have HR3 := Lib.hid hr3
      have HNr := Lib.hid (HN.out.below hb)
      have HFS := Lib.hid hfs
      clear hpw hr3 HPW HB3 HB2 HN1 hfs
      by_cases hlt : k < L
      · obtain ⟨b, o, hA, hcell⟩ := (HS.out.below hb).cell k hlt
        subst hA
        have hld : loadAgg Tryd.prog wr 53 (.pointer (some ⟨b, o + k * 4, none⟩)) = .ok (.value (.agg #[.int .i64 (E k).v, .int .i64 (E k).n, .int .i64 (E k).m, .slice (E k).a (E k).t.length (E k).c])) wr := load_step12 hcell
        have hty := HS.out.by_ k hlt
        have htc := HS.out.cap k hlt
        have htn := HS.out.nil k hlt
        have hE := HE.out k hlt
        have hzb := HZS.out k hlt
        obtain ⟨z, hz⟩ : ∃ z, E k = z := ⟨_, rfl⟩
        rw [hz] at hld hty htc htn hE hzb
        obtain ⟨zv, zn, zm, za, zc, zt⟩ := z
        dsimp only at hld hty htc htn hE hzb
        have HTY := Lib.hid hty
        have HTN := Lib.hid htn
        have HE3 := Lib.hid hE
        clear hb hcell hty htn hE hz
        go_upto_block 2 with fail
        obtain ⟨W, hW⟩ : ∃ W, wr.alloc (.cells #[.int .i64 zv, .int .i64 zn, .int .i64 zm, .slice za zt.length zc] 53) = W := ⟨_, rfl⟩
        have hdo : rowAt W wr.heap.size = some (#[.int .i64 zv, .int .i64 zn, .int .i64 zm, .slice za zt.length zc], 53) := by rw [← hW]; exact rowAt_alloc_at _ _ _ _ rfl
        have hal : Below wr.heap.size wr W := by rw [← hW]; exact (Below.refl _ _).alloc (Nat.le_refl _) _
        rw [hW]
        have HPA := Lib.hid (HP.out.below hal)
        have HBA := Lib.hid (bthen HB.out hal)
        clear hW
        go_cut [6, 11, 12, 13, 14, 15, 16, 42] from 42 to 160 (fun x _ _ _ _ _ _ i wx => ∃ (q : Nat) (rs : List (List UInt8)), x = .pointer (some ⟨q, 0, none⟩) ∧ i = .int .i64 (k : Int) ∧ PW w.heap.size gr p (64 * (N : Int)) wx q rs ∧ rs.length ≤ k + 1 ∧ (∀ t, t ∈ rs → t.length ≤ 300) ∧ ((flatP rs).length : Int) ≤ 64 * (N : Int) ∧ Below w.heap.size w wx)
        case first =>
          --FIRST
          obtain ⟨K, A', c', V', l1, l2, l3, l4, l5, l6, l7, l8⟩ := HPA.out
          have e0 : W.cell? ⟨wr.heap.size, 0, none⟩ = some (.int .i64 zv) := by rw [cell_of_rowAt hdo]; rfl
          have HDO := Lib.hid hdo
          have L1 := Lib.hid l1
          have L2 := Lib.hid l2
          have L3 := Lib.hid l3
          have L4 := Lib.hid l4
          have L6 := Lib.hid l6
          have L8 := Lib.hid l8
          have HNW := Lib.hid (HN.out.below HBA.out)
          have hgrd : gr ≠ wr.heap.size := rowAt_ne l5 hdo (by decide)
          have HPA0 := HPA
          have GRB : Hid (w.heap.size ≤ gr) := HGR
          have HPA0 := HPA
          have GRB : Hid (w.heap.size ≤ gr) := HGR
          have HPA0 := HPA
          have GRB : Hid (w.heap.size ≤ gr) := HGR
          have HPA0 := HPA
          have GRB : Hid (w.heap.size ≤ gr) := HGR
          have HPA0 := HPA
          have GRB : Hid (w.heap.size ≤ gr) := HGR
          have HPA0 := HPA
          have GRB : Hid (w.heap.size ≤ gr) := HGR
          have HPA0 := HPA
          have GRB : Hid (w.heap.size ≤ gr) := HGR
          have HPA0 := HPA
          have GRB : Hid (w.heap.size ≤ gr) := HGR
          clear l1 l2 l3 l4 l6 l8 hld hal HPA HP
          by_cases hv0 : zv = 0
          · subst hv0
            have e3 : W.cell? ⟨wr.heap.size, 3, none⟩ = some (.slice za zt.length zc) := by rw [cell_of_rowAt hdo]; rfl
            clear hdo
            by_cases hbig : 32768 < zt.length
            · go_wp2_with fail
              refine (rlog_big hbig W).mono ?_
              rintro e w1 ⟨rfl, hb1⟩
              have r1 := rowKeep hb1 l5
              clear l5 e3
              have e3' : w1.cell? ⟨wr.heap.size, 3, none⟩ = some (.slice za zt.length zc) := by rw [cell_of_rowAt (rowKeep hb1 HDO.out)]; rfl
              have hgw : gr ≠ w1.heap.size := by have := rowAt_lt r1; omega
              have hdw : wr.heap.size ≠ w1.heap.size := by have := rowAt_lt (rowKeep hb1 HDO.out); omega
              have hdl := rowAt_lt (rowKeep hb1 HDO.out)
              go_upto_region 15 with fail
              obtain ⟨W3, hW3⟩ : ∃ W3, (w1.setRow gr #[.int .i64 (64 * (N : Int)), .slice A' rs.length c']).alloc (.cells #[.int .i64 (64 * (N : Int)), .slice A' rs.length c'] 51) = W3 := ⟨_, rfl⟩
              have hbt : Bt gr w1 (w1.setRow gr #[.int .i64 (64 * (N : Int)), .slice A' rs.length c']) := Bt.setRow _ _ _
              have hal3 : Below (w1.setRow gr #[.int .i64 (64 * (N : Int)), .slice A' rs.length c']).heap.size (w1.setRow gr #[.int .i64 (64 * (N : Int)), .slice A' rs.length c']) W3 := by rw [← hW3]; exact (Below.refl _ _).alloc (Nat.le_refl _) _
              obtain ⟨K2, hK2⟩ : ∃ K2 : Nat → Prop, K = K2 := ⟨_, rfl⟩
              have RW3 := Lib.hid ((RW.set (K := K) (rs := rs) (A := A') (c := c') (V := V') L4.out r1 (L6.out.below hb1) l7 L8.out).below hal3)
              have LG3 := Lib.hid (((L1.out.below hb1).away hbt (fun h => h L4.out)).below hal3)
              have K2B := Lib.hid L2.out
              have k2l : ∀ b, K b → b < W3.heap.size := fun b hb => by have := L3.out b hb; have := hb1.size; have := hal3.size; rw [setRow_size] at this; omega
              have K2L := Lib.hid k2l
              rw [hK2] at RW3 LG3 K2B K2L
              clear k2l hK2
              have HD3 := Lib.hid (rowKeep hal3 ((hbt.row (rowAt_lt (rowKeep hb1 HDO.out)) hgrd.symm).trans (rowKeep hb1 HDO.out)))
              have hbs : Below w.heap.size w1 (w1.setRow gr #[.int .i64 (64 * (N : Int)), .slice A' rs.length c']) := hbt.below GRB.out (by have := HBA.out.size; have := hb1.size; omega)
              have HB3 := Lib.hid (((bthen HBA.out hb1).trans hbs).trans (hal3.mono (by have := HBA.out.size; have := hb1.size; have := hbs.size; omega)))
              have HTY3 := Lib.hid (HTY.out.below HB3.out)
              rw [hW3]
              clear hW3 hbt hal3 hbs hb1 r1 e3'
              have e3 : (W3.alloc (.cells #[] 5)).cell? ⟨wr.heap.size, 3, none⟩ = some (.slice za zt.length zc) := by rw [cell_of_rowAt (rowPast HD3.out)]; rfl
              have HO3 : Hid (OwnBy (W3.alloc (.cells #[] 5)) W3.heap.size (.slice (some ⟨W3.heap.size, 0, none⟩) 0 0) []) := Lib.hid (OwnBy.row (xs := []) (rowAt_alloc_at _ _ _ _ rfl) (by simp))
              go_wp2_with (at_builtin; refine wl_append_bytes rfl _ _ rfl W3.heap.size _ [] zt za zc rfl HO3.out rfl (HTY3.out.alloc _) HTN.out ?c1 (by simp) ?_)
              case c1 => simp; omega
              intro v4 w4 hown4 hb4
              have hb34 : Below W3.heap.size W3 w4 := ((Below.refl _ _).alloc (Nat.le_refl _) _).trans hb4
              obtain ⟨A4, c4, rfl, i4, i5, i6, i7⟩ := hown4.isBy
              obtain ⟨v4, hv4⟩ : ∃ v4, Value.slice A4 zt.length c4 = v4 := ⟨_, rfl⟩
              have hol4 := own_lt hown4
              obtain ⟨K3, hK3⟩ : ∃ K3 : Nat → Prop, (fun b => K2 b ∨ (Value.slice A4 zt.length c4).ownBlock = some b) = K3 := ⟨_, rfl⟩
              have k23 : ∀ b, K2 b → K3 b := fun b hb => by rw [← hK3]; exact Or.inl hb
              have k3o : ∀ b, (Value.slice A4 zt.length c4).ownBlock = some b → K3 b := fun b hb => by rw [← hK3]; exact Or.inr hb
              have k3i : ∀ b, K3 b → K2 b ∨ (Value.slice A4 zt.length c4).ownBlock = some b := fun b hb => by rw [← hK3] at hb; exact hb
              have k3l : ∀ b, K3 b → b < w4.heap.size := fun b hb => by
                rcases k3i b hb with h | h
                · exact Nat.lt_of_lt_of_le (K2L.out b h) hb34.size
                · exact (hol4 b h).2
              have HG4 := Lib.hid (((LG3.out.mono (Y := fun b => ¬ K3 b) (fun b hb hx hk => by
                rcases k3i b hk with h | h
                · exact hx h
                · have := (hol4 b h).1; omega))).below hb34)
              have HR4 := Lib.hid (RW3.out.below hb34)
              have HO4 := Lib.hid hown4
              have HI4 := Lib.hid i4
              have HB4 := Lib.hid (bthen HB3.out hb34)
              have HN4 := Lib.hid (HN.out.below HB4.out)
              have K23 := Lib.hid k23
              have K3O := Lib.hid k3o
              have K3I := Lib.hid k3i
              have K3L := Lib.hid k3l
              have I5 := Lib.hid i5
              have I6 := Lib.hid i6
              clear hown4 hb4 hb34 i4 i5 i6 i7 hol4 k23 k3o k3i k3l hK3 hv4 HO3 LG3 RW3 HTY3
              go_wp2_with fail
              refine (wappend_big A4 zt c4 w4 hbig).mono ?_
              rintro e _ ⟨rfl, rfl⟩
              have HG5 := HG4
              have HR5 := HR4
              have HO5 := HO4
              have HB5 := HB4
              clear HG4 HR4 HO4 HB4
              have K5L := K3L
              go_wp2_with fail
              go_loopw [69] (fun j w' => ∃ (m : Nat) (l' : List UInt8), m ≤ zt.length ∧ j = .int .i64 m ∧ l'.length = zt.length ∧ OwnBy w' W3.heap.size (.slice A4 zt.length c4) l' ∧ LGX (fun b => ¬ K3 b) w' q p (64 * (N : Int)) (flatP rs) ((flatP rs).length : Nat) rs ∧ RW K2 gr (64 * (N : Int)) w' rs ∧ (∀ b, K3 b → b < w'.heap.size) ∧ Below w.heap.size w w') (fun j _ => zt.length - (intOf j).toNat)
              case atStart => exact ⟨0, zt, Nat.zero_le _, rfl, rfl, HO5.out, HG5.out, HR5.out, K5L.out, HB5.out⟩
              case round =>
                rename World => w6
                obtain ⟨m, l', hm, rfl, hll, hown6, hg6, hr6, hk6, hb6⟩ := hrel
                have HG6 := Lib.hid hg6
                have HR6 := Lib.hid hr6
                have HK6 := Lib.hid hk6
                have HB6 := Lib.hid hb6
                clear hg6 hr6 hk6 hb6
                by_cases hmz : m < zt.length
                · obtain ⟨og, cap, cur, hve, hbg, hr, hc, hcm, hcs, htk⟩ := OwnBy.row_of hown6 (by omega)
                  injection hve with hve1 hve2 hve3
                  subst hve1 hve3
                  have hi : m < l'.length := by omega
                  have hcell : w6.cell? ⟨og, m, none⟩ = some (.int .u8 ((l'.getD m 0).toNat : Int)) := by
                    rw [cell_of_rowAt hr]
                    have e : (cur.toList.take l'.length)[m]? = (l'.map bc)[m]? := by rw [htk]
                    simp only [List.getElem?_take, if_pos hi, List.getElem?_map, List.getElem?_eq_getElem hi, Option.map_some, Array.getElem?_toList] at e
                    rw [e]
                    simp [bc, List.getD, List.getElem?_eq_getElem hi]
                  have hfz : w6.frozen? ⟨og, m, none⟩ = false := frozen_of_rowAt hr m
                  have hy8 := u8_lt (l'.getD m 0)
                  generalize l'.getD m 0 = x at *
                  have HS6 := Lib.hid (own_set hbg hr hc hcm hcs htk m (UInt8.ofNat (x.toNat + 1)))
                  have hbt : Bt og w6 (w6.setCell ⟨og, m, none⟩ (bc (UInt8.ofNat (x.toNat + 1)))) := Bt.setCell _ _ _ _
                  have HG7 := Lib.hid (HG6.out.away hbt (fun h => h (K3O.out og rfl)))
                  have HR7 := Lib.hid (HR6.out.keep (fun b hb hk => hbt.block b hb (fun e => by have := K2L.out b hk; omega)))
                  have HB7 := Lib.hid (HB6.out.trans (hbt.below (by have := HB3.out.size; omega) HB6.out.size))
                  have hsz : (w6.setCell ⟨og, m, none⟩ (bc (UInt8.ofNat (x.toNat + 1)))).heap.size = w6.heap.size := by simp [World.setCell]
                  have HK7 : Hid (∀ b, K3 b → b < (w6.setCell ⟨og, m, none⟩ (bc (UInt8.ofNat (x.toNat + 1)))).heap.size) := Lib.hid (fun b hb => by rw [hsz]; exact HK6.out b hb)
                  have hbv : bc (UInt8.ofNat (x.toNat + 1)) = .int .u8 (((x.toNat : Int) + 1) % 256) := by
                    unfold bc
                    rw [UInt8.toNat_ofNat']
                    exact congrArg (Value.int .u8) (by omega)
                  rw [hbv] at HS6 HG7 HR7 HB7 HK7
                  have HLL := Lib.hid hll
                  clear hown6 hr htk hbt hsz hbv hbg hc hcm hcs HG6 HR6 HB6 hll hi
                  go_wp2_with fail
                  go_roundw
                  case rel => exact ⟨m + 1, l'.set m (UInt8.ofNat (x.toNat + 1)), by omega, by go_num, by rw [List.length_set]; exact HLL.out, by have h8 := HS6.out.1; rw [List.length_set, HLL.out] at h8; exact h8, HG7.out, HR7.out, HK7.out, HB7.out⟩
                  case measure => simp [intOf]; omega
                · obtain rfl : m = zt.length := by omega
                  clear hown6
                  go_wp2_with fail
                  go_meet
                  exact ⟨q, rs, rfl, rfl, PW.of HG6.out (fun b hb => K23.out b (K2B.out b hb)) HK6.out (HR6.out.mono (fun b _ hk => K23.out b hk)), by omega, HR3.out, HFS.out, HB6.out⟩
            · have hz3 : zt.length ≤ 300 := by rcases HE3.out with h | h <;> omega
              by_cases hfull : 64 * (N : Int) < ((flatP rs).length : Int) + zt.length + 8
              · go_wp2_with fail
                refine (rlog_full (s := 64 * (N : Int)) (t := zt) (by omega) (by omega) (by omega) (fun t ht => by have := HR3.out t ht; omega) W L6.out.1 (by omega)).mono ?_
                rintro e w1 ⟨rfl, hb1⟩
                have r1 := rowKeep hb1 l5
                clear l5 e3
                have e3' : w1.cell? ⟨wr.heap.size, 3, none⟩ = some (.slice za zt.length zc) := by rw [cell_of_rowAt (rowKeep hb1 HDO.out)]; rfl
                have hgw : gr ≠ w1.heap.size := by have := rowAt_lt r1; omega
                have hdw : wr.heap.size ≠ w1.heap.size := by have := rowAt_lt (rowKeep hb1 HDO.out); omega
                have hdl := rowAt_lt (rowKeep hb1 HDO.out)
                go_upto_region 15 with fail
                obtain ⟨W3, hW3⟩ : ∃ W3, (w1.setRow gr #[.int .i64 (64 * (N : Int)), .slice A' rs.length c']).alloc (.cells #[.int .i64 (64 * (N : Int)), .slice A' rs.length c'] 51) = W3 := ⟨_, rfl⟩
                have hbt : Bt gr w1 (w1.setRow gr #[.int .i64 (64 * (N : Int)), .slice A' rs.length c']) := Bt.setRow _ _ _
                have hal3 : Below (w1.setRow gr #[.int .i64 (64 * (N : Int)), .slice A' rs.length c']).heap.size (w1.setRow gr #[.int .i64 (64 * (N : Int)), .slice A' rs.length c']) W3 := by rw [← hW3]; exact (Below.refl _ _).alloc (Nat.le_refl _) _
                obtain ⟨K2, hK2⟩ : ∃ K2 : Nat → Prop, K = K2 := ⟨_, rfl⟩
                have RW3 := Lib.hid ((RW.set (K := K) (rs := rs) (A := A') (c := c') (V := V') L4.out r1 (L6.out.below hb1) l7 L8.out).below hal3)
                have LG3 := Lib.hid (((L1.out.below hb1).away hbt (fun h => h L4.out)).below hal3)
                have K2B := Lib.hid L2.out
                have k2l : ∀ b, K b → b < W3.heap.size := fun b hb => by have := L3.out b hb; have := hb1.size; have := hal3.size; rw [setRow_size] at this; omega
                have K2L := Lib.hid k2l
                rw [hK2] at RW3 LG3 K2B K2L
                clear k2l hK2
                have HD3 := Lib.hid (rowKeep hal3 ((hbt.row (rowAt_lt (rowKeep hb1 HDO.out)) hgrd.symm).trans (rowKeep hb1 HDO.out)))
                have hbs : Below w.heap.size w1 (w1.setRow gr #[.int .i64 (64 * (N : Int)), .slice A' rs.length c']) := hbt.below GRB.out (by have := HBA.out.size; have := hb1.size; omega)
                have HB3 := Lib.hid (((bthen HBA.out hb1).trans hbs).trans (hal3.mono (by have := HBA.out.size; have := hb1.size; have := hbs.size; omega)))
                have HTY3 := Lib.hid (HTY.out.below HB3.out)
                rw [hW3]
                clear hW3 hbt hal3 hbs hb1 r1 e3'
                have e3 : (W3.alloc (.cells #[] 5)).cell? ⟨wr.heap.size, 3, none⟩ = some (.slice za zt.length zc) := by rw [cell_of_rowAt (rowPast HD3.out)]; rfl
                have HO3 : Hid (OwnBy (W3.alloc (.cells #[] 5)) W3.heap.size (.slice (some ⟨W3.heap.size, 0, none⟩) 0 0) []) := Lib.hid (OwnBy.row (xs := []) (rowAt_alloc_at _ _ _ _ rfl) (by simp))
                go_wp2_with (at_builtin; refine wl_append_bytes rfl _ _ rfl W3.heap.size _ [] zt za zc rfl HO3.out rfl (HTY3.out.alloc _) HTN.out ?c1 (by simp) ?_)
                case c1 => simp; omega
                intro v4 w4 hown4 hb4
                have hb34 : Below W3.heap.size W3 w4 := ((Below.refl _ _).alloc (Nat.le_refl _) _).trans hb4
                obtain ⟨A4, c4, rfl, i4, i5, i6, i7⟩ := hown4.isBy
                obtain ⟨v4, hv4⟩ : ∃ v4, Value.slice A4 zt.length c4 = v4 := ⟨_, rfl⟩
                have hol4 := own_lt hown4
                obtain ⟨K3, hK3⟩ : ∃ K3 : Nat → Prop, (fun b => K2 b ∨ (Value.slice A4 zt.length c4).ownBlock = some b) = K3 := ⟨_, rfl⟩
                have k23 : ∀ b, K2 b → K3 b := fun b hb => by rw [← hK3]; exact Or.inl hb
                have k3o : ∀ b, (Value.slice A4 zt.length c4).ownBlock = some b → K3 b := fun b hb => by rw [← hK3]; exact Or.inr hb
                have k3i : ∀ b, K3 b → K2 b ∨ (Value.slice A4 zt.length c4).ownBlock = some b := fun b hb => by rw [← hK3] at hb; exact hb
                have k3l : ∀ b, K3 b → b < w4.heap.size := fun b hb => by
                  rcases k3i b hb with h | h
                  · exact Nat.lt_of_lt_of_le (K2L.out b h) hb34.size
                  · exact (hol4 b h).2
                have HG4 := Lib.hid (((LG3.out.mono (Y := fun b => ¬ K3 b) (fun b hb hx hk => by
                  rcases k3i b hk with h | h
                  · exact hx h
                  · have := (hol4 b h).1; omega))).below hb34)
                have HR4 := Lib.hid (RW3.out.below hb34)
                have HO4 := Lib.hid hown4
                have HI4 := Lib.hid i4
                have HB4 := Lib.hid (bthen HB3.out hb34)
                have HN4 := Lib.hid (HN.out.below HB4.out)
                have K23 := Lib.hid k23
                have K3O := Lib.hid k3o
                have K3I := Lib.hid k3i
                have K3L := Lib.hid k3l
                have I5 := Lib.hid i5
                have I6 := Lib.hid i6
                clear hown4 hb4 hb34 i4 i5 i6 i7 hol4 k23 k3o k3i k3l hK3 hv4 HO3 LG3 RW3 HTY3
                go_wp2_with fail
                refine (wappend_full (t := zt) HG4.out.lg HN4.out HI4.out I6.out I5.out (by omega) (by omega) (by omega) (by have := HFS.out; omega) (by omega)).mono ?_
                rintro e w5 ⟨rfl, hb5⟩
                have HG5 := Lib.hid (HG4.out.below hb5)
                have HR5 := Lib.hid (HR4.out.below hb5)
                have HO5 := Lib.hid (HO4.out.below hb5)
                have HB5 := Lib.hid (bthen HB4.out hb5)
                have k5l : ∀ b, K3 b → b < w5.heap.size := fun b hb => Nat.lt_of_lt_of_le (K3L.out b hb) hb5.size
                have K5L := Lib.hid k5l
                clear HG4 HR4 HO4 HB4 hb5 k5l
                go_wp2_with fail
                go_loopw [69] (fun j w' => ∃ (m : Nat) (l' : List UInt8), m ≤ zt.length ∧ j = .int .i64 m ∧ l'.length = zt.length ∧ OwnBy w' W3.heap.size (.slice A4 zt.length c4) l' ∧ LGX (fun b => ¬ K3 b) w' q p (64 * (N : Int)) (flatP rs) ((flatP rs).length : Nat) rs ∧ RW K2 gr (64 * (N : Int)) w' rs ∧ (∀ b, K3 b → b < w'.heap.size) ∧ Below w.heap.size w w') (fun j _ => zt.length - (intOf j).toNat)
                case atStart => exact ⟨0, zt, Nat.zero_le _, rfl, rfl, HO5.out, HG5.out, HR5.out, K5L.out, HB5.out⟩
                case round =>
                  rename World => w6
                  obtain ⟨m, l', hm, rfl, hll, hown6, hg6, hr6, hk6, hb6⟩ := hrel
                  have HG6 := Lib.hid hg6
                  have HR6 := Lib.hid hr6
                  have HK6 := Lib.hid hk6
                  have HB6 := Lib.hid hb6
                  clear hg6 hr6 hk6 hb6
                  by_cases hmz : m < zt.length
                  · obtain ⟨og, cap, cur, hve, hbg, hr, hc, hcm, hcs, htk⟩ := OwnBy.row_of hown6 (by omega)
                    injection hve with hve1 hve2 hve3
                    subst hve1 hve3
                    have hi : m < l'.length := by omega
                    have hcell : w6.cell? ⟨og, m, none⟩ = some (.int .u8 ((l'.getD m 0).toNat : Int)) := by
                      rw [cell_of_rowAt hr]
                      have e : (cur.toList.take l'.length)[m]? = (l'.map bc)[m]? := by rw [htk]
                      simp only [List.getElem?_take, if_pos hi, List.getElem?_map, List.getElem?_eq_getElem hi, Option.map_some, Array.getElem?_toList] at e
                      rw [e]
                      simp [bc, List.getD, List.getElem?_eq_getElem hi]
                    have hfz : w6.frozen? ⟨og, m, none⟩ = false := frozen_of_rowAt hr m
                    have hy8 := u8_lt (l'.getD m 0)
                    generalize l'.getD m 0 = x at *
                    have HS6 := Lib.hid (own_set hbg hr hc hcm hcs htk m (UInt8.ofNat (x.toNat + 1)))
                    have hbt : Bt og w6 (w6.setCell ⟨og, m, none⟩ (bc (UInt8.ofNat (x.toNat + 1)))) := Bt.setCell _ _ _ _
                    have HG7 := Lib.hid (HG6.out.away hbt (fun h => h (K3O.out og rfl)))
                    have HR7 := Lib.hid (HR6.out.keep (fun b hb hk => hbt.block b hb (fun e => by have := K2L.out b hk; omega)))
                    have HB7 := Lib.hid (HB6.out.trans (hbt.below (by have := HB3.out.size; omega) HB6.out.size))
                    have hsz : (w6.setCell ⟨og, m, none⟩ (bc (UInt8.ofNat (x.toNat + 1)))).heap.size = w6.heap.size := by simp [World.setCell]
                    have HK7 : Hid (∀ b, K3 b → b < (w6.setCell ⟨og, m, none⟩ (bc (UInt8.ofNat (x.toNat + 1)))).heap.size) := Lib.hid (fun b hb => by rw [hsz]; exact HK6.out b hb)
                    have hbv : bc (UInt8.ofNat (x.toNat + 1)) = .int .u8 (((x.toNat : Int) + 1) % 256) := by
                      unfold bc
                      rw [UInt8.toNat_ofNat']
                      exact congrArg (Value.int .u8) (by omega)
                    rw [hbv] at HS6 HG7 HR7 HB7 HK7
                    have HLL := Lib.hid hll
                    clear hown6 hr htk hbt hsz hbv hbg hc hcm hcs HG6 HR6 HB6 hll hi
                    go_wp2_with fail
                    go_roundw
                    case rel => exact ⟨m + 1, l'.set m (UInt8.ofNat (x.toNat + 1)), by omega, by go_num, by rw [List.length_set]; exact HLL.out, by have h8 := HS6.out.1; rw [List.length_set, HLL.out] at h8; exact h8, HG7.out, HR7.out, HK7.out, HB7.out⟩
                    case measure => simp [intOf]; omega
                  · obtain rfl : m = zt.length := by omega
                    clear hown6
                    go_wp2_with fail
                    go_meet
                    exact ⟨q, rs, rfl, rfl, PW.of HG6.out (fun b hb => K23.out b (K2B.out b hb)) HK6.out (HR6.out.mono (fun b _ hk => K23.out b hk)), by omega, HR3.out, HFS.out, HB6.out⟩
              · go_wp2_with fail
                refine (rlog_ok (K0 := K) (s := 64 * (N : Int)) (t := zt) (by omega) (by omega) (by omega) (fun t ht => by have := HR3.out t ht; omega) W L6.out l7 L8.out (HTY.out.below HBA.out) htc HTN.out (fun hn x hx => L2.out _ (by
                  obtain ⟨b1, o1, g1, g2⟩ := HTY.out 0 (List.length_pos_iff.2 hn)
                  have hlt2 : b1 < w.heap.size := World.block_lt_of_cell? _ _ g2
                  rw [hx] at g1
                  injection g1 with g1
                  have : x.block = b1 := by rw [g1]
                  omega)) L3.out (by omega)).mono ?_
                rintro e w1 ⟨A2, c2, V2, rfl, ht2, hc2, ha2, hb1⟩
                have r1 := rowKeep hb1 l5
                clear l5 e3
                have e3' : w1.cell? ⟨wr.heap.size, 3, none⟩ = some (.slice za zt.length zc) := by rw [cell_of_rowAt (rowKeep hb1 HDO.out)]; rfl
                have hgw : gr ≠ w1.heap.size := by have := rowAt_lt r1; omega
                have hdw : wr.heap.size ≠ w1.heap.size := by have := rowAt_lt (rowKeep hb1 HDO.out); omega
                have hdl := rowAt_lt (rowKeep hb1 HDO.out)
                go_upto_region 15 with fail
                obtain ⟨W3, hW3⟩ : ∃ W3, (w1.setRow gr #[.int .i64 (64 * (N : Int)), .slice A2 (rs.length + 1) c2]).alloc (.cells #[.int .i64 (64 * (N : Int)), .slice A2 (rs.length + 1) c2] 51) = W3 := ⟨_, rfl⟩
                have hbt : Bt gr w1 (w1.setRow gr #[.int .i64 (64 * (N : Int)), .slice A2 (rs.length + 1) c2]) := Bt.setRow _ _ _
                have hal3 : Below (w1.setRow gr #[.int .i64 (64 * (N : Int)), .slice A2 (rs.length + 1) c2]).heap.size (w1.setRow gr #[.int .i64 (64 * (N : Int)), .slice A2 (rs.length + 1) c2]) W3 := by rw [← hW3]; exact (Below.refl _ _).alloc (Nat.le_refl _) _
                obtain ⟨K2, k2i⟩ : ∃ K2 : Nat → Prop, ∀ b, K2 b ↔ (K b ∨ (W.heap.size ≤ b ∧ b < w1.heap.size)) := ⟨_, fun b => Iff.rfl⟩
                have RW3 := Lib.hid ((RW.set (K := K2) (rs := rs ++ [zt]) (A := A2) (c := c2) (V := V2) ((k2i gr).2 (Or.inl L4.out)) r1 (ht2.mono (fun b hb hk => (k2i b).2 (hk.imp id (fun h => ⟨h, hb⟩)))) (by rw [List.length_append]; exact hc2) ha2).below (by rw [List.length_append]; exact hal3))
                have LG3 := Lib.hid ((((L1.out.mono (Y := fun b => ¬ K2 b) (fun b hb hx hk => by
                  rcases (k2i b).1 hk with h | h
                  · exact hx h
                  · omega)).below hb1).away hbt (fun h => h ((k2i gr).2 (Or.inl L4.out)))).below hal3)
                have K2B : Hid (∀ b, b < w.heap.size → K2 b) := Lib.hid (fun b hb => (k2i b).2 (Or.inl (L2.out b hb)))
                have K2L : Hid (∀ b, K2 b → b < W3.heap.size) := Lib.hid (fun b hb => by
                  have h2 := hb1.size
                  have h3 := hal3.size
                  rw [setRow_size] at h3
                  rcases (k2i b).1 hb with h | h
                  · have := L3.out b h; omega
                  · omega)
                clear k2i ht2
                have HD3 := Lib.hid (rowKeep hal3 ((hbt.row (rowAt_lt (rowKeep hb1 HDO.out)) hgrd.symm).trans (rowKeep hb1 HDO.out)))
                have hbs : Below w.heap.size w1 (w1.setRow gr #[.int .i64 (64 * (N : Int)), .slice A2 (rs.length + 1) c2]) := hbt.below GRB.out (by have := HBA.out.size; have := hb1.size; omega)
                have HB3 := Lib.hid (((bthen HBA.out hb1).trans hbs).trans (hal3.mono (by have := HBA.out.size; have := hb1.size; have := hbs.size; omega)))
                have HTY3 := Lib.hid (HTY.out.below HB3.out)
                rw [hW3]
                clear hW3 hbt hal3 hbs hb1 r1 e3'
                have e3 : (W3.alloc (.cells #[] 5)).cell? ⟨wr.heap.size, 3, none⟩ = some (.slice za zt.length zc) := by rw [cell_of_rowAt (rowPast HD3.out)]; rfl
                have HO3 : Hid (OwnBy (W3.alloc (.cells #[] 5)) W3.heap.size (.slice (some ⟨W3.heap.size, 0, none⟩) 0 0) []) := Lib.hid (OwnBy.row (xs := []) (rowAt_alloc_at _ _ _ _ rfl) (by simp))
                go_wp2_with (at_builtin; refine wl_append_bytes rfl _ _ rfl W3.heap.size _ [] zt za zc rfl HO3.out rfl (HTY3.out.alloc _) HTN.out ?c1 (by simp) ?_)
                case c1 => simp; omega
                intro v4 w4 hown4 hb4
                have hb34 : Below W3.heap.size W3 w4 := ((Below.refl _ _).alloc (Nat.le_refl _) _).trans hb4
                obtain ⟨A4, c4, rfl, i4, i5, i6, i7⟩ := hown4.isBy
                obtain ⟨v4, hv4⟩ : ∃ v4, Value.slice A4 zt.length c4 = v4 := ⟨_, rfl⟩
                have hol4 := own_lt hown4
                obtain ⟨K3, hK3⟩ : ∃ K3 : Nat → Prop, (fun b => K2 b ∨ (Value.slice A4 zt.length c4).ownBlock = some b) = K3 := ⟨_, rfl⟩
                have k23 : ∀ b, K2 b → K3 b := fun b hb => by rw [← hK3]; exact Or.inl hb
                have k3o : ∀ b, (Value.slice A4 zt.length c4).ownBlock = some b → K3 b := fun b hb => by rw [← hK3]; exact Or.inr hb
                have k3i : ∀ b, K3 b → K2 b ∨ (Value.slice A4 zt.length c4).ownBlock = some b := fun b hb => by rw [← hK3] at hb; exact hb
                have k3l : ∀ b, K3 b → b < w4.heap.size := fun b hb => by
                  rcases k3i b hb with h | h
                  · exact Nat.lt_of_lt_of_le (K2L.out b h) hb34.size
                  · exact (hol4 b h).2
                have HG4 := Lib.hid (((LG3.out.mono (Y := fun b => ¬ K3 b) (fun b hb hx hk => by
                  rcases k3i b hk with h | h
                  · exact hx h
                  · have := (hol4 b h).1; omega))).below hb34)
                have HR4 := Lib.hid (RW3.out.below hb34)
                have HO4 := Lib.hid hown4
                have HI4 := Lib.hid i4
                have HB4 := Lib.hid (bthen HB3.out hb34)
                have HN4 := Lib.hid (HN.out.below HB4.out)
                have K23 := Lib.hid k23
                have K3O := Lib.hid k3o
                have K3I := Lib.hid k3i
                have K3L := Lib.hid k3l
                have I5 := Lib.hid i5
                have I6 := Lib.hid i6
                clear hown4 hb4 hb34 i4 i5 i6 i7 hol4 k23 k3o k3i k3l hK3 hv4 HO3 LG3 RW3 HTY3
                go_wp2_with fail
                refine (wappend_okX (X := fun b => ¬ K3 b) (t := zt) HG4.out HN4.out HI4.out I6.out I5.out (by omega) (by omega) (by omega) (by have := HFS.out; omega) (by omega) (by omega) (fun b hb hk => by have := K3L.out b hk; omega)).mono ?_
                rintro e w5 ⟨rfl, hg5, hf5⟩
                rw [← flatP_snoc] at hg5
                have HG5 := Lib.hid hg5
                have HR5 := Lib.hid (HR4.out.keep (fun b hb hk => hf5.keep b hb (K23.out b hk)))
                have HO5 := Lib.hid (HO4.out.keep (fun b hb hk => hf5.keep b hb (K3O.out b hk)))
                have HB5 := Lib.hid (HB4.out.trans (hf5.below (fun b hb hn => hn (K23.out b (K2B.out b hb))) HB4.out.size))
                have k5l : ∀ b, K3 b → b < w5.heap.size := fun b hb => Nat.lt_of_lt_of_le (K3L.out b hb) hf5.size
                have K5L := Lib.hid k5l
                clear HG4 HR4 HO4 HB4 hg5 hf5 k5l
                go_wp2_with fail
                go_loopw [69] (fun j w' => ∃ (m : Nat) (l' : List UInt8), m ≤ zt.length ∧ j = .int .i64 m ∧ l'.length = zt.length ∧ OwnBy w' W3.heap.size (.slice A4 zt.length c4) l' ∧ LGX (fun b => ¬ K3 b) w' q p (64 * (N : Int)) (flatP (rs ++ [zt])) ((flatP (rs ++ [zt])).length : Nat) (rs ++ [zt]) ∧ RW K2 gr (64 * (N : Int)) w' (rs ++ [zt]) ∧ (∀ b, K3 b → b < w'.heap.size) ∧ Below w.heap.size w w') (fun j _ => zt.length - (intOf j).toNat)
                case atStart => exact ⟨0, zt, Nat.zero_le _, rfl, rfl, HO5.out, HG5.out, HR5.out, K5L.out, HB5.out⟩
                case round =>
                  rename World => w6
                  obtain ⟨m, l', hm, rfl, hll, hown6, hg6, hr6, hk6, hb6⟩ := hrel
                  have HG6 := Lib.hid hg6
                  have HR6 := Lib.hid hr6
                  have HK6 := Lib.hid hk6
                  have HB6 := Lib.hid hb6
                  clear hg6 hr6 hk6 hb6
                  by_cases hmz : m < zt.length
                  · obtain ⟨og, cap, cur, hve, hbg, hr, hc, hcm, hcs, htk⟩ := OwnBy.row_of hown6 (by omega)
                    injection hve with hve1 hve2 hve3
                    subst hve1 hve3
                    have hi : m < l'.length := by omega
                    have hcell : w6.cell? ⟨og, m, none⟩ = some (.int .u8 ((l'.getD m 0).toNat : Int)) := by
                      rw [cell_of_rowAt hr]
                      have e : (cur.toList.take l'.length)[m]? = (l'.map bc)[m]? := by rw [htk]
                      simp only [List.getElem?_take, if_pos hi, List.getElem?_map, List.getElem?_eq_getElem hi, Option.map_some, Array.getElem?_toList] at e
                      rw [e]
                      simp [bc, List.getD, List.getElem?_eq_getElem hi]
                    have hfz : w6.frozen? ⟨og, m, none⟩ = false := frozen_of_rowAt hr m
                    have hy8 := u8_lt (l'.getD m 0)
                    generalize l'.getD m 0 = x at *
                    have HS6 := Lib.hid (own_set hbg hr hc hcm hcs htk m (UInt8.ofNat (x.toNat + 1)))
                    have hbt : Bt og w6 (w6.setCell ⟨og, m, none⟩ (bc (UInt8.ofNat (x.toNat + 1)))) := Bt.setCell _ _ _ _
                    have HG7 := Lib.hid (HG6.out.away hbt (fun h => h (K3O.out og rfl)))
                    have HR7 := Lib.hid (HR6.out.keep (fun b hb hk => hbt.block b hb (fun e => by have := K2L.out b hk; omega)))
                    have HB7 := Lib.hid (HB6.out.trans (hbt.below (by have := HB3.out.size; omega) HB6.out.size))
                    have hsz : (w6.setCell ⟨og, m, none⟩ (bc (UInt8.ofNat (x.toNat + 1)))).heap.size = w6.heap.size := by simp [World.setCell]
                    have HK7 : Hid (∀ b, K3 b → b < (w6.setCell ⟨og, m, none⟩ (bc (UInt8.ofNat (x.toNat + 1)))).heap.size) := Lib.hid (fun b hb => by rw [hsz]; exact HK6.out b hb)
                    have hbv : bc (UInt8.ofNat (x.toNat + 1)) = .int .u8 (((x.toNat : Int) + 1) % 256) := by
                      unfold bc
                      rw [UInt8.toNat_ofNat']
                      exact congrArg (Value.int .u8) (by omega)
                    rw [hbv] at HS6 HG7 HR7 HB7 HK7
                    have HLL := Lib.hid hll
                    clear hown6 hr htk hbt hsz hbv hbg hc hcm hcs HG6 HR6 HB6 hll hi
                    go_wp2_with fail
                    go_roundw
                    case rel => exact ⟨m + 1, l'.set m (UInt8.ofNat (x.toNat + 1)), by omega, by go_num, by rw [List.length_set]; exact HLL.out, by have h8 := HS6.out.1; rw [List.length_set, HLL.out] at h8; exact h8, HG7.out, HR7.out, HK7.out, HB7.out⟩
                    case measure => simp [intOf]; omega
                  · obtain rfl : m = zt.length := by omega
                    clear hown6
                    go_wp2_with fail
                    go_meet
                    exact ⟨q, (rs ++ [zt]), rfl, rfl, PW.of HG6.out (fun b hb => K23.out b (K2B.out b hb)) HK6.out (HR6.out.mono (fun b _ hk => K23.out b hk)), by rw [List.length_append, List.length_singleton]; omega, (fun t ht => by rcases List.mem_append.1 ht with ht | ht; exact HR3.out t ht; obtain rfl := List.mem_singleton.1 ht; rcases HE3.out with h | h <;> omega), (by rw [flatP_snoc, List.length_append, putL_len]; omega), HB6.out⟩
          · by_cases hv1 : zv = 1
            · subst hv1
              clear hdo
              by_cases hnil : rs = []
              · subst hnil
                go_wp2_with fail
                refine (rcompact_none W).mono ?_
                rintro e w1 ⟨rfl, hb1⟩
                have r1 := rowKeep hb1 l5
                go_upto_region 25 with fail
                obtain ⟨W3, hW3⟩ : ∃ W3, w1.setRow gr #[.int .i64 (64 * (N : Int)), .slice A' 0 c'] = W3 := ⟨_, rfl⟩
                have hbt : Bt gr w1 W3 := by rw [← hW3]; exact Bt.setRow _ _ _
                have RW3 : RW K gr (64 * (N : Int)) W3 [] := by rw [← hW3]; exact RW.set (K := K) (rs := []) L4.out r1 (L6.out.below hb1) l7 L8.out
                have LG3 := Lib.hid ((L1.out.below hb1).away hbt (fun h => h L4.out))
                have HB3 := Lib.hid ((bthen HBA.out hb1).trans (hbt.below GRB.out (by have := HBA.out.size; have := hb1.size; omega)))
                have HN3 := Lib.hid (HN.out.below HB3.out)
                have K3L : ∀ b, K b → b < W3.heap.size := fun b hb => by have := L3.out b hb; have := hb1.size; have := hbt.size; omega
                have HRW3 := Lib.hid RW3
                have HK3L := Lib.hid K3L
                rw [hW3]
                clear hW3 hbt RW3 K3L r1 hb1 l5
                go_wp2_with fail
                refine (wcompact_none LG3.out.lg).mono ?_
                rintro e _ ⟨rfl, rfl⟩
                go_wp2_with fail
                go_meet
                exact ⟨q, [], rfl, rfl, PW.of LG3.out L2.out HK3L.out HRW3.out, by simp, HR3.out, HFS.out, HB3.out⟩
              · have HLR := Lib.hid (last_room hnil)
                have HLM := Lib.hid (lastT_mem hnil)
                have HNL := Lib.hid hnil
                go_wp2_with fail
                refine (rcompact_ok W L6.out l7 hnil (by omega)).mono ?_
                rintro e w1 ⟨A2, c2, V2, rfl, ht2, hc2, ha2, hb1⟩
                have r1 := rowKeep hb1 l5
                go_upto_region 25 with fail
                obtain ⟨W3, hW3⟩ : ∃ W3, w1.setRow gr #[.int .i64 (64 * (N : Int)), .slice A2 1 c2] = W3 := ⟨_, rfl⟩
                have hbt : Bt gr w1 W3 := by rw [← hW3]; exact Bt.setRow _ _ _
                have RW3 : RW K gr (64 * (N : Int)) W3 [lastT rs] := by rw [← hW3]; exact RW.set (K := K) (rs := [lastT rs]) L4.out r1 ht2 hc2 ha2
                have LG3 := Lib.hid ((L1.out.below hb1).away hbt (fun h => h L4.out))
                have HB3 := Lib.hid ((bthen HBA.out hb1).trans (hbt.below GRB.out (by have := HBA.out.size; have := hb1.size; omega)))
                have HN3 := Lib.hid (HN.out.below HB3.out)
                have K3L : ∀ b, K b → b < W3.heap.size := fun b hb => by have := L3.out b hb; have := hb1.size; have := hbt.size; omega
                have HRW3 := Lib.hid RW3
                have HK3L := Lib.hid K3L
                rw [hW3]
                clear hW3 hbt RW3 K3L r1 hb1 l5
                have e4 : flatP [lastT rs] = putL (lastT rs) := by simp [flatP]
                have hsl : ((putL (rs.getD (rs.length - 1) [])).length : Int) ≤ 64 * (N : Int) := by
                  have h1 := HLR.out
                  rw [e4] at h1
                  have h2 := HFS.out
                  show ((putL (lastT rs)).length : Int) ≤ _
                  omega
                have E4 := Lib.hid e4
                have HSL := Lib.hid hsl
                clear e4 hsl ht2
                go_wp2_with fail
                refine (wcompact_okX (X := fun b => ¬ K b) LG3.out HN3.out hnil (by omega) (fun t ht => by have := HR3.out t ht; omega) HSL.out (fun b hb hk => by have := HK3L.out b hk; omega)).mono ?_
                rintro e w5 ⟨rfl, hg5, hf5⟩
                have hg5' : LGX (fun b => ¬ K b) w5 q p (64 * (N : Int)) (flatP [lastT rs]) ((flatP [lastT rs]).length : Nat) [lastT rs] := by rw [E4.out]; exact hg5
                have HG5 := Lib.hid hg5'
                have HR5 := Lib.hid (HRW3.out.keep hf5.keep)
                have HB5 := Lib.hid (HB3.out.trans (hf5.below (fun b hb hn => hn (L2.out b hb)) HB3.out.size))
                have k5l : ∀ b, K b → b < w5.heap.size := fun b hb => Nat.lt_of_lt_of_le (HK3L.out b hb) hf5.size
                have K5L := Lib.hid k5l
                clear hg5 hg5' hf5 k5l
                go_wp2_with fail
                go_meet
                exact ⟨q, [lastT rs], rfl, rfl, PW.of HG5.out L2.out K5L.out HR5.out, by have := List.length_pos_iff.2 HNL.out; simp, (fun t ht => by obtain rfl := List.mem_singleton.1 ht; exact HR3.out _ HLM.out), (by have h1 := HLR.out; have h2 := HFS.out; omega), HB5.out⟩
            · by_cases hv2 : zv = 2
              · subst hv2
                have e1 : W.cell? ⟨wr.heap.size, 1, none⟩ = some (.int .i64 zn) := by rw [cell_of_rowAt hdo]; rfl
                have e2 : W.cell? ⟨wr.heap.size, 2, none⟩ = some (.int .i64 zm) := by rw [cell_of_rowAt hdo]; rfl
                have hf6 := flatP_le 300 rs HR3.out
                have HF6 : Hid ((flatP rs).length ≤ 6160) := Lib.hid (by omega)
                obtain ⟨v0, x1, x2, x3, x4, x5⟩ := L1.out
                have HCR := Lib.hid (crash_safe zn zm x3 (by have := HF6.out; omega))
                have HRW0 := Lib.hid (show RW K gr (64 * (N : Int)) W rs from ⟨A', c', V', L4.out, l5, L6.out, l7, L8.out⟩)
                have HSA := Lib.hid (scan_all rs (fun t ht => by have := HR3.out t ht; omega))
                clear hdo hf6 x1 x2 x3 l5
                go_wp2_with fail
                refine HCR.out.mono ?_
                rintro e w1 ⟨rfl, hd1, hbt⟩
                have HD1 := Lib.hid (hd1.mono (Y := fun A => flatP rs ≠ [] → ∀ x, A = some x → ¬ K x.block) (fun A _ hA hl x hx => (hA hl x hx).2))
                have HR1 := Lib.hid (HRW0.out.keep (fun b hb hk => hbt.block b hb (fun e => x5 (e ▸ hk))))
                have HB1 := Lib.hid (HBA.out.trans (hbt.below hp' HBA.out.size))
                have HN1 := Lib.hid (HN.out.below HB1.out)
                have k1l : ∀ b, K b → b < w1.heap.size := fun b hb => Nat.lt_of_lt_of_le (L3.out b hb) hbt.size
                have K1L := Lib.hid k1l
                clear hd1 hbt k1l HCR e1 e2
                go_wp2_with fail
                refine (wopen_okX (X := fun b => ¬ K b) HD1.out HN1.out (by have := HF6.out; omega) HSA.out.1 HSA.out.2 x5 (fun b hb hk => by have := K1L.out b hk; omega)).mono ?_
                rintro e w2 ⟨q2, rfl, hg2, hf2⟩
                rw [List.take_length] at hg2
                have HG2 := Lib.hid hg2
                have HR2 := Lib.hid (HR1.out.keep hf2.keep)
                have HB2 := Lib.hid (HB1.out.trans (hf2.below (fun b hb hn => hn (L2.out b hb)) HB1.out.size))
                have k2l : ∀ b, K b → b < w2.heap.size := fun b hb => Nat.lt_of_lt_of_le (K1L.out b hb) hf2.size
                have K2L := Lib.hid k2l
                clear hg2 hf2 k2l
                go_wp2_with fail
                go_meet
                exact ⟨q2, rs, rfl, rfl, PW.of HG2.out L2.out K2L.out HR2.out, by omega, HR3.out, HFS.out, HB2.out⟩
              · go_wp2_with fail
                go_meet
                exact ⟨q, rs, rfl, rfl, HPA0.out, by omega, HR3.out, HFS.out, HBA.out⟩
        case rest =>
          obtain ⟨q', rs', rfl, rfl, hpw, hrk', hr3', hfs', hb'⟩ := hcut
          have HPC := Lib.hid hpw
          have HBC := Lib.hid hb'
          have HR3' := Lib.hid hr3'
          have HNC := Lib.hid (HN.out.below hb')
          have HFS' := Lib.hid hfs'
          clear hpw hr3' hb' hfs' HPA HBA HR3 HFS HP HB HNr hdo hal hld HTY HTN HE3
          obtain ⟨K, A', c', V', l1, l2, l3, l4, l5, l6, l7, l8⟩ := HPC.out
          have HLG := Lib.hid l1.lg
          have HK := Lib.hid (And.intro l1 (And.intro l2 (And.intro l3 l4)))
          have HTX := Lib.hid l6
          have HR := Lib.hid l5
          have HA8 := Lib.hid l8
          clear l1 l2 l3 l4 l5 l6 l8 HPC
          by_cases hnil : rs' = []
          · subst hnil
            go_wp2_with fail
            refine (wlast_none HLG.out).mono ?_
            rintro e _ ⟨rfl, rfl⟩
            --CHECK0
            have hc1 : wc.cell? ⟨gr, 1, none⟩ = some (.slice A' 0 c') := by rw [cell_of_rowAt HR.out]; rfl
            have HPD : Hid (PW w.heap.size gr p (64 * (N : Int)) wc q' []) := Lib.hid ⟨K, A', c', V', HK.out.1, HK.out.2.1, HK.out.2.2.1, HK.out.2.2.2, HR.out, HTX.out, l7, HA8.out⟩
            have HCE := Lib.hid hc1
            clear hc1
            go_upto_region 34 with fail
            refine wp_region_held_drew (S := fun w' : World => LG 0 w' q' p (64 * (N : Int)) (flatP []) ((flatP []).length : Nat) [] ∧ TxIs w' A' V' [] ∧ w'.cell? ⟨gr, 1, none⟩ = some (.slice A' 0 c') ∧ Nib w' ∧ Hid (Below w.heap.size w w') ∧ Hid (PW w.heap.size gr p (64 * (N : Int)) w' q' [])) (by kernel_rfl) ⟨HLG.out.below (Below.refl _ _).drew, HTX.out.1.below (Below.refl _ _).drew, by rw [← HCE.out]; rfl, HNC.out.below (Below.refl _ _).drew, Lib.hid HBC.out.drew, Lib.hid (HPD.out.below (Below.refl _ _).drew)⟩ (fun hS => ?_)
            clear HLG HTX HR HA8 HK HNC HBC HPD HCE
            generalize wc.drew = W7 at *
            refine held_take (i := 0) (by simp only [List.getElem?_toArray, List.getElem?_cons_succ, List.getElem?_cons_zero]; rfl) (by decide +kernel) (by decide +kernel) (by decide +kernel) (by exact fun _ _ _ _ h => h) hS (by rfl) ?_
            apply Exists.intro
            refine ⟨fun w' hSw => ?_, ?_⟩
            · go_simp
              with_reducible rfl
            (try simp only [act_put, act_put_none, List.set_cons_zero, List.set_cons_succ])
            refine held_take (i := 2) (by simp only [List.getElem?_toArray, List.getElem?_cons_succ, List.getElem?_cons_zero]; rfl) (by decide +kernel) (by decide +kernel) (by decide +kernel) (by exact fun _ _ _ _ h => h) hS (by rfl) ?_
            apply Exists.intro
            refine ⟨fun w' hSw => ?_, ?_⟩
            · go_simp
              with_reducible rfl
            (try simp only [act_put, act_put_none, List.set_cons_zero, List.set_cons_succ])
            refine held_take (i := 3) (by simp only [List.getElem?_toArray, List.getElem?_cons_succ, List.getElem?_cons_zero]; rfl) (by decide +kernel) (by decide +kernel) (by decide +kernel) (by exact fun _ _ _ _ h => h) hS (by rfl) ?_
            apply Exists.intro
            refine ⟨fun w' hSw => ?_, ?_⟩
            · obtain ⟨_, _, q_c1, _, _, _⟩ := hSw
              go_simp
              with_reducible rfl
            (try simp only [act_put, act_put_none, List.set_cons_zero, List.set_cons_succ])
            refine wpAnyH_ready (rs := [1]) (by decide +kernel) (by simp) ?_
            refine AllReadyH.cons (i := 1) (by simp only [List.getElem?_toArray, List.getElem?_cons_succ, List.getElem?_cons_zero]; rfl) (fun K hK => ?_) ?_
            · go_simp
              go_at_call 17
              refine (wall_any hS.1 (by omega) (fun t ht => by have := HR3'.out t ht; omega)).mono ?_
              rintro e v1 ⟨va, rfl, hown, hb⟩
              have HX := Lib.hid hb
              obtain ⟨Aa, ca, Va, rfl, hta, _, _⟩ := hown.is
              have HTA := Lib.hid hta
              clear hb hown hta
              go_simp
              refine hK.out _ _ ⟨hS.1.below HX.out, hS.2.1.below HX.out, (HX.out.cell (World.block_lt_of_cell? _ _ hS.2.2.1)).trans hS.2.2.1, hS.2.2.2.1.below HX.out, Lib.hid (bthen hS.2.2.2.2.1.out HX.out), Lib.hid (hS.2.2.2.2.2.out.below HX.out)⟩ (fun hS2 => ?_)
              clear hS hK K
              have hS := hS2
              clear hS2
              clear HX
              (try simp only [act_put, act_put_none, List.set_cons_zero, List.set_cons_succ])
              refine wpAnyH_ready (rs := [4]) (by decide +kernel) (by simp) ?_
              refine AllReadyH.cons (i := 4) (by simp only [List.getElem?_toArray, List.getElem?_cons_succ, List.getElem?_cons_zero]; rfl) (fun K hK => ?_) ?_
              · go_simp
                go_at_call 16
                refine (same_true Aa (A') ca c' 0 Va V' [] _ HTA.out hS.2.1 rfl (by decide)).mono ?_
                rintro e v2 ⟨rfl, hb⟩
                have HX := Lib.hid hb
                clear hb HTA
                go_simp
                refine hK.out _ _ ⟨hS.1.below HX.out, hS.2.1.below HX.out, (HX.out.cell (World.block_lt_of_cell? _ _ hS.2.2.1)).trans hS.2.2.1, hS.2.2.2.1.below HX.out, Lib.hid (bthen hS.2.2.2.2.1.out HX.out), Lib.hid (hS.2.2.2.2.2.out.below HX.out)⟩ (fun hS2 => ?_)
                clear hS hK K
                have hS := hS2
                clear hS2
                clear HX
                (try simp only [act_put, act_put_none, List.set_cons_zero, List.set_cons_succ])
                refine held_take (i := 5) (by simp only [List.getElem?_toArray, List.getElem?_cons_succ, List.getElem?_cons_zero]; rfl) (by decide +kernel) (by decide +kernel) (by decide +kernel) (by exact fun _ _ _ _ h => h) hS (by rfl) ?_
                apply Exists.intro
                refine ⟨fun w' hSw => ?_, ?_⟩
                · go_simp
                  with_reducible rfl
                (try simp only [act_put, act_put_none, List.set_cons_zero, List.set_cons_succ])
                refine held_take (i := 6) (by simp only [List.getElem?_toArray, List.getElem?_cons_succ, List.getElem?_cons_zero]; rfl) (by decide +kernel) (by decide +kernel) (by decide +kernel) (by exact fun _ _ _ _ h => h) hS (by rfl) ?_
                apply Exists.intro
                refine ⟨fun w' hSw => ?_, ?_⟩
                · go_simp
                  with_reducible rfl
                (try simp only [act_put, act_put_none, List.set_cons_zero, List.set_cons_succ])
                refine held_take (i := 7) (by simp only [List.getElem?_toArray, List.getElem?_cons_succ, List.getElem?_cons_zero]; rfl) (by decide +kernel) (by decide +kernel) (by decide +kernel) (by exact fun _ _ _ _ h => h) hS (by rfl) ?_
                apply Exists.intro
                refine ⟨fun w' hSw => ?_, ?_⟩
                · go_simp
                  with_reducible rfl
                (try simp only [act_put, act_put_none, List.set_cons_zero, List.set_cons_succ])
                refine held_take (i := 9) (by simp only [List.getElem?_toArray, List.getElem?_cons_succ, List.getElem?_cons_zero]; rfl) (by decide +kernel) (by decide +kernel) (by decide +kernel) (by exact fun _ _ _ _ h => h) hS (by rfl) ?_
                apply Exists.intro
                refine ⟨fun w' hSw => ?_, ?_⟩
                · go_simp
                  with_reducible rfl
                (try simp only [act_put, act_put_none, List.set_cons_zero, List.set_cons_succ])
                refine held_take (i := 10) (by simp only [List.getElem?_toArray, List.getElem?_cons_succ, List.getElem?_cons_zero]; rfl) (by decide +kernel) (by decide +kernel) (by decide +kernel) (by exact fun _ _ _ _ h => h) hS (by rfl) ?_
                apply Exists.intro
                refine ⟨fun w' hSw => ?_, ?_⟩
                · obtain ⟨_, _, q_c1, _, _, _⟩ := hSw
                  go_simp
                  with_reducible rfl
                (try simp only [act_put, act_put_none, List.set_cons_zero, List.set_cons_succ])
                refine held_take (i := 11) (by simp only [List.getElem?_toArray, List.getElem?_cons_succ, List.getElem?_cons_zero]; rfl) (by decide +kernel) (by decide +kernel) (by decide +kernel) (by exact fun _ _ _ _ h => h) hS (by rfl) ?_
                apply Exists.intro
                refine ⟨fun w' hSw => ?_, ?_⟩
                · go_simp
                  with_reducible rfl
                (try simp only [act_put, act_put_none, List.set_cons_zero, List.set_cons_succ])
                refine wpAnyH_ready (rs := [8]) (by decide +kernel) (by simp) ?_
                refine AllReadyH.cons (i := 8) (by simp only [List.getElem?_toArray, List.getElem?_cons_succ, List.getElem?_cons_zero]; rfl) (fun K hK => ?_) ?_
                · go_simp
                  go_at_call 21
                  refine (wlen_any hS.1).mono ?_
                  rintro e _ ⟨rfl, rfl⟩
                  go_simp
                  refine hK.out _ _ hS (fun hS2 => ?_)
                  clear hK K hS2
                  (try simp only [act_put, act_put_none, List.set_cons_zero, List.set_cons_succ])
                  refine held_take (i := 12) (by simp only [List.getElem?_toArray, List.getElem?_cons_succ, List.getElem?_cons_zero]; rfl) (by decide +kernel) (by decide +kernel) (by decide +kernel) (by exact fun _ _ _ _ h => h) hS (by rfl) ?_
                  apply Exists.intro
                  refine ⟨fun w' hSw => ?_, ?_⟩
                  · go_simp
                    with_reducible rfl
                  (try simp only [act_put, act_put_none, List.set_cons_zero, List.set_cons_succ])
                  refine held_take (i := 13) (by simp only [List.getElem?_toArray, List.getElem?_cons_succ, List.getElem?_cons_zero]; rfl) (by decide +kernel) (by decide +kernel) (by decide +kernel) (by exact fun _ _ _ _ h => h) hS (by rfl) ?_
                  apply Exists.intro
                  refine ⟨fun w' hSw => ?_, ?_⟩
                  · go_simp
                    with_reducible rfl
                  (try simp only [act_put, act_put_none, List.set_cons_zero, List.set_cons_succ])
                  refine held_take (i := 14) (by simp only [List.getElem?_toArray, List.getElem?_cons_succ, List.getElem?_cons_zero]; rfl) (by decide +kernel) (by decide +kernel) (by decide +kernel) (by exact fun _ _ _ _ h => h) hS (by rfl) ?_
                  apply Exists.intro
                  refine ⟨fun w' hSw => ?_, ?_⟩
                  · go_simp
                    with_reducible rfl
                  (try simp only [act_put, act_put_none, List.set_cons_zero, List.set_cons_succ])
                  refine held_take (i := 15) (by simp only [List.getElem?_toArray, List.getElem?_cons_succ, List.getElem?_cons_zero]; rfl) (by decide +kernel) (by decide +kernel) (by decide +kernel) (by exact fun _ _ _ _ h => h) hS (by rfl) ?_
                  apply Exists.intro
                  refine ⟨fun w' hSw => ?_, ?_⟩
                  · go_simp
                    with_reducible rfl
                  (try simp only [act_put, act_put_none, List.set_cons_zero, List.set_cons_succ])
                  refine held_take (i := 18) (by simp only [List.getElem?_toArray, List.getElem?_cons_succ, List.getElem?_cons_zero]; rfl) (by decide +kernel) (by decide +kernel) (by decide +kernel) (by exact fun _ _ _ _ h => h) hS (by rfl) ?_
                  apply Exists.intro
                  refine ⟨fun w' hSw => ?_, ?_⟩
                  · go_simp
                    with_reducible rfl
                  (try simp only [act_put, act_put_none, List.set_cons_zero, List.set_cons_succ])
                  refine held_take (i := 19) (by simp only [List.getElem?_toArray, List.getElem?_cons_succ, List.getElem?_cons_zero]; rfl) (by decide +kernel) (by decide +kernel) (by decide +kernel) (by exact fun _ _ _ _ h => h) hS (by rfl) ?_
                  apply Exists.intro
                  refine ⟨fun w' hSw => ?_, ?_⟩
                  · obtain ⟨_, _, q_c1, _, _, _⟩ := hSw
                    go_simp
                    with_reducible rfl
                  (try simp only [act_put, act_put_none, List.set_cons_zero, List.set_cons_succ])
                  refine wpAnyH_ready (rs := [16]) (by decide +kernel) (by simp) ?_
                  refine AllReadyH.cons (i := 16) (by simp only [List.getElem?_toArray, List.getElem?_cons_succ, List.getElem?_cons_zero]; rfl) (fun K hK => ?_) ?_
                  · go_simp
                    go_at_call 15
                    refine (dbytes_any hS.1.dk (by have := HFS'.out; omega)).mono ?_
                    rintro e v3 ⟨g3, rfl, hr, _, hb⟩
                    have HX := Lib.hid hb
                    have HI3 := Lib.hid (isBy_full hr)
                    clear hb hr
                    go_simp
                    refine hK.out _ _ ⟨hS.1.below HX.out, hS.2.1.below HX.out, (HX.out.cell (World.block_lt_of_cell? _ _ hS.2.2.1)).trans hS.2.2.1, hS.2.2.2.1.below HX.out, Lib.hid (bthen hS.2.2.2.2.1.out HX.out), Lib.hid (hS.2.2.2.2.2.out.below HX.out)⟩ (fun hS2 => ?_)
                    clear hS hK K
                    have hS := hS2
                    clear hS2
                    clear HX
                    (try simp only [act_put, act_put_none, List.set_cons_zero, List.set_cons_succ])
                    have hS := And.intro (HI3.out) hS
                    refine held_more (S2 := fun w' : World => IsBy w' (some ⟨g3, 0, none⟩) (flatP []) ∧ LG 0 w' q' p (64 * (N : Int)) (flatP []) ((flatP []).length : Nat) [] ∧ TxIs w' (A') V' [] ∧ w'.cell? ⟨gr, 1, none⟩ = some (.slice (A') 0 c') ∧ Nib w' ∧ Hid (Below w.heap.size w w') ∧ Hid (PW w.heap.size gr p (64 * (N : Int)) w' q' [])) (fun _ h => h.2) ?_
                    clear HI3
                    refine held_take (i := 17) (by simp only [List.getElem?_toArray, List.getElem?_cons_succ, List.getElem?_cons_zero]; rfl) (by decide +kernel) (by decide +kernel) (by decide +kernel) (by exact fun _ _ _ _ h => h) hS (by rfl) ?_
                    apply Exists.intro
                    refine ⟨fun w' hSw => ?_, ?_⟩
                    · obtain ⟨q_b3, _, _, _, _, _, _⟩ := hSw
                      have hcv := convT (c := (flatP []).length) q_b3
                      go_simp
                      with_reducible rfl
                    (try simp only [act_put, act_put_none, List.set_cons_zero, List.set_cons_succ])
                    refine wpAnyH_ready (rs := [20]) (by decide +kernel) (by simp) ?_
                    refine AllReadyH.cons (i := 20) (by simp only [List.getElem?_toArray, List.getElem?_cons_succ, List.getElem?_cons_zero]; rfl) (fun K hK => ?_) ?_
                    · go_simp
                      go_at_call 10
                      refine (rbytes_any (A') c' 0 V' [] _ hS.2.2.1 rfl (by decide) (fun p hp => by have := HR3'.out p hp; omega) (by have := HFS'.out; omega)).mono ?_
                      rintro e v4 ⟨vb, rfl, hown, hb⟩
                      obtain ⟨Ab, cb, rfl, i1, _, _, _⟩ := hown.isBy
                      have HX := Lib.hid hb
                      have HI4 := Lib.hid i1
                      clear hb hown i1
                      go_simp
                      refine hK.out _ _ ⟨hS.1.below HX.out, hS.2.1.below HX.out, hS.2.2.1.below HX.out, (HX.out.cell (World.block_lt_of_cell? _ _ hS.2.2.2.1)).trans hS.2.2.2.1, hS.2.2.2.2.1.below HX.out, Lib.hid (bthen hS.2.2.2.2.2.1.out HX.out), Lib.hid (hS.2.2.2.2.2.2.out.below HX.out)⟩ (fun hS2 => ?_)
                      clear hS hK K
                      have hS := hS2
                      clear hS2
                      clear HX
                      (try simp only [act_put, act_put_none, List.set_cons_zero, List.set_cons_succ])
                      have hS := And.intro (HI4.out) hS
                      refine held_more (S2 := fun w' : World => IsBy w' Ab (flatP []) ∧ IsBy w' (some ⟨g3, 0, none⟩) (flatP []) ∧ LG 0 w' q' p (64 * (N : Int)) (flatP []) ((flatP []).length : Nat) [] ∧ TxIs w' (A') V' [] ∧ w'.cell? ⟨gr, 1, none⟩ = some (.slice (A') 0 c') ∧ Nib w' ∧ Hid (Below w.heap.size w w') ∧ Hid (PW w.heap.size gr p (64 * (N : Int)) w' q' [])) (fun _ h => h.2) ?_
                      clear HI4
                      refine held_take (i := 21) (by simp only [List.getElem?_toArray, List.getElem?_cons_succ, List.getElem?_cons_zero]; rfl) (by decide +kernel) (by decide +kernel) (by decide +kernel) (by exact fun _ _ _ _ h => h) hS (by rfl) ?_
                      apply Exists.intro
                      refine ⟨fun w' hSw => ?_, ?_⟩
                      · obtain ⟨q_b4, _, _, _, _, _, _, _⟩ := hSw
                        have hcv := convT (c := cb) q_b4
                        go_simp
                        with_reducible rfl
                      (try simp only [act_put, act_put_none, List.set_cons_zero, List.set_cons_succ])
                      refine held_take (i := 22) (by simp only [List.getElem?_toArray, List.getElem?_cons_succ, List.getElem?_cons_zero]; rfl) (by decide +kernel) (by decide +kernel) (by decide +kernel) (by exact fun _ _ _ _ h => h) hS (by rfl) ?_
                      apply Exists.intro
                      refine ⟨fun w' hSw => ?_, ?_⟩
                      · go_simp
                        with_reducible rfl
                      (try simp only [act_put, act_put_none, List.set_cons_zero, List.set_cons_succ])
                      refine held_take (i := 23) (by simp only [List.getElem?_toArray, List.getElem?_cons_succ, List.getElem?_cons_zero]; rfl) (by decide +kernel) (by decide +kernel) (by decide +kernel) (by exact fun _ _ _ _ h => h) hS (by rfl) ?_
                      apply Exists.intro
                      refine ⟨fun w' hSw => ?_, ?_⟩
                      · go_simp
                        with_reducible rfl
                      (try simp only [act_put, act_put_none, List.set_cons_zero, List.set_cons_succ])
                      refine held_take (i := 24) (by simp only [List.getElem?_toArray, List.getElem?_cons_succ, List.getElem?_cons_zero]; rfl) (by decide +kernel) (by decide +kernel) (by decide +kernel) (by exact fun _ _ _ _ h => h) hS (by rfl) ?_
                      apply Exists.intro
                      refine ⟨fun w' hSw => ?_, ?_⟩
                      · go_simp
                        with_reducible rfl
                      (try simp only [act_put, act_put_none, List.set_cons_zero, List.set_cons_succ])
                      refine held_take (i := 25) (by simp only [List.getElem?_toArray, List.getElem?_cons_succ, List.getElem?_cons_zero]; rfl) (by decide +kernel) (by decide +kernel) (by decide +kernel) (by exact fun _ _ _ _ h => h) hS (by rfl) ?_
                      apply Exists.intro
                      refine ⟨fun w' hSw => ?_, ?_⟩
                      · go_simp
                        with_reducible rfl
                      (try simp only [act_put, act_put_none, List.set_cons_zero, List.set_cons_succ])
                      refine held_take (i := 26) (by simp only [List.getElem?_toArray, List.getElem?_cons_succ, List.getElem?_cons_zero]; rfl) (by decide +kernel) (by decide +kernel) (by decide +kernel) (by exact fun _ _ _ _ h => h) hS (by rfl) ?_
                      apply Exists.intro
                      refine ⟨fun w' hSw => ?_, ?_⟩
                      · go_simp
                        with_reducible rfl
                      (try simp only [act_put, act_put_none, List.set_cons_zero, List.set_cons_succ])
                      refine held_take (i := 27) (by simp only [List.getElem?_toArray, List.getElem?_cons_succ, List.getElem?_cons_zero]; rfl) (by decide +kernel) (by decide +kernel) (by decide +kernel) (by exact fun _ _ _ _ h => h) hS (by rfl) ?_
                      apply Exists.intro
                      refine ⟨fun w' hSw => ?_, ?_⟩
                      · obtain ⟨_, _, _, _, q_c1, _, _, _⟩ := hSw
                        go_simp
                        with_reducible rfl
                      (try simp only [act_put, act_put_none, List.set_cons_zero, List.set_cons_succ])
                      refine held_take (i := 28) (by simp only [List.getElem?_toArray, List.getElem?_cons_succ, List.getElem?_cons_zero]; rfl) (by decide +kernel) (by decide +kernel) (by decide +kernel) (by exact fun _ _ _ _ h => h) hS (by rfl) ?_
                      apply Exists.intro
                      refine ⟨fun w' hSw => ?_, ?_⟩
                      · go_simp
                        with_reducible rfl
                      (try simp only [act_put, act_put_none, List.set_cons_zero, List.set_cons_succ])
                      refine held_take (i := 29) (by simp only [List.getElem?_toArray, List.getElem?_cons_succ, List.getElem?_cons_zero]; rfl) (by decide +kernel) (by decide +kernel) (by decide +kernel) (by exact fun _ _ _ _ h => h) hS (by rfl) ?_
                      apply Exists.intro
                      refine ⟨fun w' hSw => ?_, ?_⟩
                      · go_simp
                        with_reducible rfl
                      (try simp only [act_put, act_put_none, List.set_cons_zero, List.set_cons_succ])
                      refine held_take (i := 30) (by simp only [List.getElem?_toArray, List.getElem?_cons_succ, List.getElem?_cons_zero]; rfl) (by decide +kernel) (by decide +kernel) (by decide +kernel) (by exact fun _ _ _ _ h => h) hS (by rfl) ?_
                      apply Exists.intro
                      refine ⟨fun w' hSw => ?_, ?_⟩
                      · go_simp
                        with_reducible rfl
                      (try simp only [act_put, act_put_none, List.set_cons_zero, List.set_cons_succ])
                      refine held_take (i := 31) (by simp only [List.getElem?_toArray, List.getElem?_cons_succ, List.getElem?_cons_zero]; rfl) (by decide +kernel) (by decide +kernel) (by decide +kernel) (by exact fun _ _ _ _ h => h) hS (by rfl) ?_
                      apply Exists.intro
                      refine ⟨fun w' hSw => ?_, ?_⟩
                      · go_simp
                        with_reducible rfl
                      (try simp only [act_put, act_put_none, List.set_cons_zero, List.set_cons_succ])
                      refine held_take (i := 32) (by simp only [List.getElem?_toArray, List.getElem?_cons_succ, List.getElem?_cons_zero]; rfl) (by decide +kernel) (by decide +kernel) (by decide +kernel) (by exact fun _ _ _ _ h => h) hS (by rfl) ?_
                      apply Exists.intro
                      refine ⟨fun w' hSw => ?_, ?_⟩
                      · go_simp
                        with_reducible rfl
                      (try simp only [act_put, act_put_none, List.set_cons_zero, List.set_cons_succ])
                      refine held_take (i := 33) (by simp only [List.getElem?_toArray, List.getElem?_cons_succ, List.getElem?_cons_zero]; rfl) (by decide +kernel) (by decide +kernel) (by decide +kernel) (by exact fun _ _ _ _ h => h) hS (by rfl) ?_
                      apply Exists.intro
                      refine ⟨fun w' hSw => ?_, ?_⟩
                      · go_simp
                        with_reducible rfl
                      (try simp only [act_put, act_put_none, List.set_cons_zero, List.set_cons_succ])
                      refine held_take (i := 34) (by simp only [List.getElem?_toArray, List.getElem?_cons_succ, List.getElem?_cons_zero]; rfl) (by decide +kernel) (by decide +kernel) (by decide +kernel) (by exact fun _ _ _ _ h => h) hS (by rfl) ?_
                      apply Exists.intro
                      refine ⟨fun w' hSw => ?_, ?_⟩
                      · go_simp
                        with_reducible rfl
                      (try simp only [act_put, act_put_none, List.set_cons_zero, List.set_cons_succ])
                      refine held_skip (i := 35) (by simp only [List.getElem?_toArray, List.getElem?_cons_succ, List.getElem?_cons_zero]; rfl) (by decide +kernel) (by decide +kernel) (by decide +kernel) (by exact fun _ _ _ _ h => h) hS (by rfl) ?_
                      (try simp only [act_put, act_put_none, List.set_cons_zero, List.set_cons_succ])
                      refine held_skip (i := 36) (by simp only [List.getElem?_toArray, List.getElem?_cons_succ, List.getElem?_cons_zero]; rfl) (by decide +kernel) (by decide +kernel) (by decide +kernel) (by exact fun _ _ _ _ h => h) hS (by rfl) ?_
                      (try simp only [act_put, act_put_none, List.set_cons_zero, List.set_cons_succ])
                      refine held_skip (i := 37) (by simp only [List.getElem?_toArray, List.getElem?_cons_succ, List.getElem?_cons_zero]; rfl) (by decide +kernel) (by decide +kernel) (by decide +kernel) (by exact fun _ _ _ _ h => h) hS (by rfl) ?_
                      (try simp only [act_put, act_put_none, List.set_cons_zero, List.set_cons_succ])
                      refine held_skip (i := 38) (by simp only [List.getElem?_toArray, List.getElem?_cons_succ, List.getElem?_cons_zero]; rfl) (by decide +kernel) (by decide +kernel) (by decide +kernel) (by exact fun _ _ _ _ h => h) hS (by rfl) ?_
                      (try simp only [act_put, act_put_none, List.set_cons_zero, List.set_cons_succ])
                      refine held_skip (i := 39) (by simp only [List.getElem?_toArray, List.getElem?_cons_succ, List.getElem?_cons_zero]; rfl) (by decide +kernel) (by decide +kernel) (by decide +kernel) (by exact fun _ _ _ _ h => h) hS (by rfl) ?_
                      (try simp only [act_put, act_put_none, List.set_cons_zero, List.set_cons_succ])
                      refine held_skip (i := 40) (by simp only [List.getElem?_toArray, List.getElem?_cons_succ, List.getElem?_cons_zero]; rfl) (by decide +kernel) (by decide +kernel) (by decide +kernel) (by exact fun _ _ _ _ h => h) hS (by rfl) ?_
                      (try simp only [act_put, act_put_none, List.set_cons_zero, List.set_cons_succ])
                      refine held_skip (i := 41) (by simp only [List.getElem?_toArray, List.getElem?_cons_succ, List.getElem?_cons_zero]; rfl) (by decide +kernel) (by decide +kernel) (by decide +kernel) (by exact fun _ _ _ _ h => h) hS (by rfl) ?_
                      (try simp only [act_put, act_put_none, List.set_cons_zero, List.set_cons_succ])
                      refine held_skip (i := 42) (by simp only [List.getElem?_toArray, List.getElem?_cons_succ, List.getElem?_cons_zero]; rfl) (by decide +kernel) (by decide +kernel) (by decide +kernel) (by exact fun _ _ _ _ h => h) hS (by rfl) ?_
                      (try simp only [act_put, act_put_none, List.set_cons_zero, List.set_cons_succ])
                      refine held_skip (i := 43) (by simp only [List.getElem?_toArray, List.getElem?_cons_succ, List.getElem?_cons_zero]; rfl) (by decide +kernel) (by decide +kernel) (by decide +kernel) (by exact fun _ _ _ _ h => h) hS (by rfl) ?_
                      (try simp only [act_put, act_put_none, List.set_cons_zero, List.set_cons_succ])
                      refine held_skip (i := 44) (by simp only [List.getElem?_toArray, List.getElem?_cons_succ, List.getElem?_cons_zero]; rfl) (by decide +kernel) (by decide +kernel) (by decide +kernel) (by exact fun _ _ _ _ h => h) hS (by rfl) ?_
                      (try simp only [act_put, act_put_none, List.set_cons_zero, List.set_cons_succ])
                      refine held_skip (i := 45) (by simp only [List.getElem?_toArray, List.getElem?_cons_succ, List.getElem?_cons_zero]; rfl) (by decide +kernel) (by decide +kernel) (by decide +kernel) (by exact fun _ _ _ _ h => h) hS (by rfl) ?_
                      (try simp only [act_put, act_put_none, List.set_cons_zero, List.set_cons_succ])
                      refine held_skip (i := 46) (by simp only [List.getElem?_toArray, List.getElem?_cons_succ, List.getElem?_cons_zero]; rfl) (by decide +kernel) (by decide +kernel) (by decide +kernel) (by exact fun _ _ _ _ h => h) hS (by rfl) ?_
                      (try simp only [act_put, act_put_none, List.set_cons_zero, List.set_cons_succ])
                      refine held_take (i := 47) (by simp only [List.getElem?_toArray, List.getElem?_cons_succ, List.getElem?_cons_zero]; rfl) (by decide +kernel) (by decide +kernel) (by decide +kernel) (by exact fun _ _ _ _ h => h) hS (by rfl) ?_
                      apply Exists.intro
                      refine ⟨fun w' hSw => ?_, ?_⟩
                      · go_simp
                        with_reducible rfl
                      (try simp only [act_put, act_put_none, List.set_cons_zero, List.set_cons_succ])
                      refine held_take (i := 48) (by simp only [List.getElem?_toArray, List.getElem?_cons_succ, List.getElem?_cons_zero]; rfl) (by decide +kernel) (by decide +kernel) (by decide +kernel) (by exact fun _ _ _ _ h => h) hS (by rfl) ?_
                      apply Exists.intro
                      refine ⟨fun w' hSw => ?_, ?_⟩
                      · go_simp
                        with_reducible rfl
                      (try simp only [act_put, act_put_none, List.set_cons_zero, List.set_cons_succ])
                      refine wpAnyH_done (by decide +kernel) ?_ _
                      have HSF := Lib.hid hS.2.2.2.2.2.2.1.out
                      have HPF := Lib.hid hS.2.2.2.2.2.2.2.out
                      clear hS
                      go_wp2_with fail
                      go_roundw
                      case rel => exact ⟨k + 1, q', [], by omega, by go_num, rfl, HPF.out, by first | omega | simp, HR3'.out, HFS'.out, HSF.out⟩
                      case measure => simp [intOf]; omega
                    exact AllReadyH.nil
                  exact AllReadyH.nil
                exact AllReadyH.nil
              exact AllReadyH.nil
            exact AllReadyH.nil
          · have hpos := List.length_pos_iff.2 hnil
            have HLAST := Lib.hid (wlast_any HLG.out hnil (by omega) (fun t ht => by have := HR3'.out t ht; omega))
            go_wp2_with fail
            refine HLAST.out.mono ?_
            rintro e w5 ⟨v5, rfl, hown, hb5⟩
            --CHECK1
            obtain ⟨A5, c5, rfl, i5, _, _, _⟩ := (show OwnBy w5 wc.heap.size v5 (lastT rs') from hown).isBy
            obtain ⟨m, hm⟩ : ∃ m, rs'.length = m + 1 := ⟨rs'.length - 1, by omega⟩
            have hml : m < rs'.length := by omega
            obtain ⟨bA, oA, hbA, hdA⟩ := HTX.out.1.1.cell m hml
            subst hbA
            have hlm : lastT rs' = rs'.getD m [] := by unfold lastT; rw [show rs'.length - 1 = m by omega]
            have hvm2 := HTX.out.1.2 m hml
            rw [← hlm] at hvm2
            obtain ⟨am, cm, tm, hvm⟩ : ∃ am cm tm, V' m = (am, cm, tm) := ⟨_, _, _, rfl⟩
            rw [hvm] at hvm2
            dsimp only at hvm2
            subst hvm2
            have e1 : IntKind.i64.wrap ((rs'.length : Int) - 1) = (m : Int) := by rw [IntWalk.i64_in _ (by omega)]; omega
            have hg0 : decide ((0 : Int) < (rs'.length : Int)) = true := decide_eq_true (by omega)
            have hrl : rs'.length ≤ 1000000 := by omega
            have HM := Lib.hid hm
            clear hm
            have HLM := Lib.hid hlm
            have HIB := Lib.hid i5
            have HPD : Hid (PW w.heap.size gr p (64 * (N : Int)) wc q' rs') := Lib.hid ⟨K, some ⟨bA, oA, none⟩, c', V', HK.out.1, HK.out.2.1, HK.out.2.2.1, HK.out.2.2.2, HR.out, HTX.out, l7, HA8.out⟩
            have HLG5 := Lib.hid (HLG.out.below hb5)
            have HTX5 := Lib.hid (HTX.out.1.below hb5)
            have HR5 := Lib.hid (rowKeep hb5 HR.out)
            have HNC5 := Lib.hid (HNC.out.below hb5)
            have HBC5 := Lib.hid (bthen HBC.out hb5)
            have HPD5 := Lib.hid (HPD.out.below hb5)
            have hc1 : w5.cell? ⟨gr, 1, none⟩ = some (.slice (some ⟨bA, oA, none⟩) rs'.length c') := by rw [cell_of_rowAt HR5.out]; rfl
            have HCE := Lib.hid hc1
            clear hown hb5 i5 hlm hdA hc1 HLAST HLG HTX HR HA8 HK HNC HBC HPD
            go_upto_region 34 with fail
            refine wp_region_held_drew (S := fun w' : World => LG 0 w' q' p (64 * (N : Int)) (flatP rs') ((flatP rs').length : Nat) rs' ∧ TxIs w' (some ⟨bA, oA, none⟩) V' rs' ∧ w'.cell? ⟨gr, 1, none⟩ = some (.slice (some ⟨bA, oA, none⟩) rs'.length c') ∧ Nib w' ∧ Hid (Below w.heap.size w w') ∧ Hid (PW w.heap.size gr p (64 * (N : Int)) w' q' rs') ∧ IsBy w' A5 (lastT rs')) (by kernel_rfl) ⟨HLG5.out.below (Below.refl _ _).drew, HTX5.out.below (Below.refl _ _).drew, by rw [← HCE.out]; rfl, HNC5.out.below (Below.refl _ _).drew, Lib.hid HBC5.out.drew, Lib.hid (HPD5.out.below (Below.refl _ _).drew), HIB.out.below (Below.refl _ _).drew⟩ (fun hS => ?_)
            clear HLG5 HTX5 HR5 HNC5 HBC5 HPD5 HCE HIB
            generalize w5.drew = W7 at *
            refine held_take (i := 0) (by simp only [List.getElem?_toArray, List.getElem?_cons_succ, List.getElem?_cons_zero]; rfl) (by decide +kernel) (by decide +kernel) (by decide +kernel) (by exact fun _ _ _ _ h => h) hS (by rfl) ?_
            apply Exists.intro
            refine ⟨fun w' hSw => ?_, ?_⟩
            · go_simp
              with_reducible rfl
            (try simp only [act_put, act_put_none, List.set_cons_zero, List.set_cons_succ])
            refine held_take (i := 2) (by simp only [List.getElem?_toArray, List.getElem?_cons_succ, List.getElem?_cons_zero]; rfl) (by decide +kernel) (by decide +kernel) (by decide +kernel) (by exact fun _ _ _ _ h => h) hS (by rfl) ?_
            apply Exists.intro
            refine ⟨fun w' hSw => ?_, ?_⟩
            · go_simp
              with_reducible rfl
            (try simp only [act_put, act_put_none, List.set_cons_zero, List.set_cons_succ])
            refine held_take (i := 3) (by simp only [List.getElem?_toArray, List.getElem?_cons_succ, List.getElem?_cons_zero]; rfl) (by decide +kernel) (by decide +kernel) (by decide +kernel) (by exact fun _ _ _ _ h => h) hS (by rfl) ?_
            apply Exists.intro
            refine ⟨fun w' hSw => ?_, ?_⟩
            · obtain ⟨_, _, q_c1, _, _, _, _⟩ := hSw
              go_simp
              with_reducible rfl
            (try simp only [act_put, act_put_none, List.set_cons_zero, List.set_cons_succ])
            refine wpAnyH_ready (rs := [1]) (by decide +kernel) (by simp) ?_
            refine AllReadyH.cons (i := 1) (by simp only [List.getElem?_toArray, List.getElem?_cons_succ, List.getElem?_cons_zero]; rfl) (fun K hK => ?_) ?_
            · go_simp
              go_at_call 17
              refine (wall_any hS.1 (by omega) (fun t ht => by have := HR3'.out t ht; omega)).mono ?_
              rintro e v1 ⟨va, rfl, hown, hb⟩
              have HX := Lib.hid hb
              obtain ⟨Aa, ca, Va, rfl, hta, _, _⟩ := hown.is
              have HTA := Lib.hid hta
              clear hb hown hta
              go_simp
              refine hK.out _ _ ⟨hS.1.below HX.out, hS.2.1.below HX.out, (HX.out.cell (World.block_lt_of_cell? _ _ hS.2.2.1)).trans hS.2.2.1, hS.2.2.2.1.below HX.out, Lib.hid (bthen hS.2.2.2.2.1.out HX.out), Lib.hid (hS.2.2.2.2.2.1.out.below HX.out), hS.2.2.2.2.2.2.below HX.out⟩ (fun hS2 => ?_)
              clear hS hK K
              have hS := hS2
              clear hS2
              clear HX
              (try simp only [act_put, act_put_none, List.set_cons_zero, List.set_cons_succ])
              refine wpAnyH_ready (rs := [4]) (by decide +kernel) (by simp) ?_
              refine AllReadyH.cons (i := 4) (by simp only [List.getElem?_toArray, List.getElem?_cons_succ, List.getElem?_cons_zero]; rfl) (fun K hK => ?_) ?_
              · go_simp
                go_at_call 16
                refine (same_true Aa (some ⟨bA, oA, none⟩) ca c' rs'.length Va V' rs' _ HTA.out hS.2.1 rfl hrl).mono ?_
                rintro e v2 ⟨rfl, hb⟩
                have HX := Lib.hid hb
                clear hb HTA
                go_simp
                refine hK.out _ _ ⟨hS.1.below HX.out, hS.2.1.below HX.out, (HX.out.cell (World.block_lt_of_cell? _ _ hS.2.2.1)).trans hS.2.2.1, hS.2.2.2.1.below HX.out, Lib.hid (bthen hS.2.2.2.2.1.out HX.out), Lib.hid (hS.2.2.2.2.2.1.out.below HX.out), hS.2.2.2.2.2.2.below HX.out⟩ (fun hS2 => ?_)
                clear hS hK K
                have hS := hS2
                clear hS2
                clear HX
                (try simp only [act_put, act_put_none, List.set_cons_zero, List.set_cons_succ])
                refine held_take (i := 5) (by simp only [List.getElem?_toArray, List.getElem?_cons_succ, List.getElem?_cons_zero]; rfl) (by decide +kernel) (by decide +kernel) (by decide +kernel) (by exact fun _ _ _ _ h => h) hS (by rfl) ?_
                apply Exists.intro
                refine ⟨fun w' hSw => ?_, ?_⟩
                · go_simp
                  with_reducible rfl
                (try simp only [act_put, act_put_none, List.set_cons_zero, List.set_cons_succ])
                refine held_take (i := 6) (by simp only [List.getElem?_toArray, List.getElem?_cons_succ, List.getElem?_cons_zero]; rfl) (by decide +kernel) (by decide +kernel) (by decide +kernel) (by exact fun _ _ _ _ h => h) hS (by rfl) ?_
                apply Exists.intro
                refine ⟨fun w' hSw => ?_, ?_⟩
                · go_simp
                  with_reducible rfl
                (try simp only [act_put, act_put_none, List.set_cons_zero, List.set_cons_succ])
                refine held_take (i := 7) (by simp only [List.getElem?_toArray, List.getElem?_cons_succ, List.getElem?_cons_zero]; rfl) (by decide +kernel) (by decide +kernel) (by decide +kernel) (by exact fun _ _ _ _ h => h) hS (by rfl) ?_
                apply Exists.intro
                refine ⟨fun w' hSw => ?_, ?_⟩
                · go_simp
                  with_reducible rfl
                (try simp only [act_put, act_put_none, List.set_cons_zero, List.set_cons_succ])
                refine held_take (i := 9) (by simp only [List.getElem?_toArray, List.getElem?_cons_succ, List.getElem?_cons_zero]; rfl) (by decide +kernel) (by decide +kernel) (by decide +kernel) (by exact fun _ _ _ _ h => h) hS (by rfl) ?_
                apply Exists.intro
                refine ⟨fun w' hSw => ?_, ?_⟩
                · go_simp
                  with_reducible rfl
                (try simp only [act_put, act_put_none, List.set_cons_zero, List.set_cons_succ])
                refine held_take (i := 10) (by simp only [List.getElem?_toArray, List.getElem?_cons_succ, List.getElem?_cons_zero]; rfl) (by decide +kernel) (by decide +kernel) (by decide +kernel) (by exact fun _ _ _ _ h => h) hS (by rfl) ?_
                apply Exists.intro
                refine ⟨fun w' hSw => ?_, ?_⟩
                · obtain ⟨_, _, q_c1, _, _, _, _⟩ := hSw
                  go_simp
                  with_reducible rfl
                (try simp only [act_put, act_put_none, List.set_cons_zero, List.set_cons_succ])
                refine held_take (i := 11) (by simp only [List.getElem?_toArray, List.getElem?_cons_succ, List.getElem?_cons_zero]; rfl) (by decide +kernel) (by decide +kernel) (by decide +kernel) (by exact fun _ _ _ _ h => h) hS (by rfl) ?_
                apply Exists.intro
                refine ⟨fun w' hSw => ?_, ?_⟩
                · go_simp
                  with_reducible rfl
                (try simp only [act_put, act_put_none, List.set_cons_zero, List.set_cons_succ])
                refine wpAnyH_ready (rs := [8]) (by decide +kernel) (by simp) ?_
                refine AllReadyH.cons (i := 8) (by simp only [List.getElem?_toArray, List.getElem?_cons_succ, List.getElem?_cons_zero]; rfl) (fun K hK => ?_) ?_
                · go_simp
                  go_at_call 21
                  refine (wlen_any hS.1).mono ?_
                  rintro e _ ⟨rfl, rfl⟩
                  go_simp
                  refine hK.out _ _ hS (fun hS2 => ?_)
                  clear hK K hS2
                  (try simp only [act_put, act_put_none, List.set_cons_zero, List.set_cons_succ])
                  refine held_take (i := 12) (by simp only [List.getElem?_toArray, List.getElem?_cons_succ, List.getElem?_cons_zero]; rfl) (by decide +kernel) (by decide +kernel) (by decide +kernel) (by exact fun _ _ _ _ h => h) hS (by rfl) ?_
                  apply Exists.intro
                  refine ⟨fun w' hSw => ?_, ?_⟩
                  · go_simp
                    with_reducible rfl
                  (try simp only [act_put, act_put_none, List.set_cons_zero, List.set_cons_succ])
                  refine held_take (i := 13) (by simp only [List.getElem?_toArray, List.getElem?_cons_succ, List.getElem?_cons_zero]; rfl) (by decide +kernel) (by decide +kernel) (by decide +kernel) (by exact fun _ _ _ _ h => h) hS (by rfl) ?_
                  apply Exists.intro
                  refine ⟨fun w' hSw => ?_, ?_⟩
                  · go_simp
                    with_reducible rfl
                  (try simp only [act_put, act_put_none, List.set_cons_zero, List.set_cons_succ])
                  refine held_take (i := 14) (by simp only [List.getElem?_toArray, List.getElem?_cons_succ, List.getElem?_cons_zero]; rfl) (by decide +kernel) (by decide +kernel) (by decide +kernel) (by exact fun _ _ _ _ h => h) hS (by rfl) ?_
                  apply Exists.intro
                  refine ⟨fun w' hSw => ?_, ?_⟩
                  · go_simp
                    with_reducible rfl
                  (try simp only [act_put, act_put_none, List.set_cons_zero, List.set_cons_succ])
                  refine held_take (i := 15) (by simp only [List.getElem?_toArray, List.getElem?_cons_succ, List.getElem?_cons_zero]; rfl) (by decide +kernel) (by decide +kernel) (by decide +kernel) (by exact fun _ _ _ _ h => h) hS (by rfl) ?_
                  apply Exists.intro
                  refine ⟨fun w' hSw => ?_, ?_⟩
                  · go_simp
                    with_reducible rfl
                  (try simp only [act_put, act_put_none, List.set_cons_zero, List.set_cons_succ])
                  refine held_take (i := 18) (by simp only [List.getElem?_toArray, List.getElem?_cons_succ, List.getElem?_cons_zero]; rfl) (by decide +kernel) (by decide +kernel) (by decide +kernel) (by exact fun _ _ _ _ h => h) hS (by rfl) ?_
                  apply Exists.intro
                  refine ⟨fun w' hSw => ?_, ?_⟩
                  · go_simp
                    with_reducible rfl
                  (try simp only [act_put, act_put_none, List.set_cons_zero, List.set_cons_succ])
                  refine held_take (i := 19) (by simp only [List.getElem?_toArray, List.getElem?_cons_succ, List.getElem?_cons_zero]; rfl) (by decide +kernel) (by decide +kernel) (by decide +kernel) (by exact fun _ _ _ _ h => h) hS (by rfl) ?_
                  apply Exists.intro
                  refine ⟨fun w' hSw => ?_, ?_⟩
                  · obtain ⟨_, _, q_c1, _, _, _, _⟩ := hSw
                    go_simp
                    with_reducible rfl
                  (try simp only [act_put, act_put_none, List.set_cons_zero, List.set_cons_succ])
                  refine wpAnyH_ready (rs := [16]) (by decide +kernel) (by simp) ?_
                  refine AllReadyH.cons (i := 16) (by simp only [List.getElem?_toArray, List.getElem?_cons_succ, List.getElem?_cons_zero]; rfl) (fun K hK => ?_) ?_
                  · go_simp
                    go_at_call 15
                    refine (dbytes_any hS.1.dk (by have := HFS'.out; omega)).mono ?_
                    rintro e v3 ⟨g3, rfl, hr, _, hb⟩
                    have HX := Lib.hid hb
                    have HI3 := Lib.hid (isBy_full hr)
                    clear hb hr
                    go_simp
                    refine hK.out _ _ ⟨hS.1.below HX.out, hS.2.1.below HX.out, (HX.out.cell (World.block_lt_of_cell? _ _ hS.2.2.1)).trans hS.2.2.1, hS.2.2.2.1.below HX.out, Lib.hid (bthen hS.2.2.2.2.1.out HX.out), Lib.hid (hS.2.2.2.2.2.1.out.below HX.out), hS.2.2.2.2.2.2.below HX.out⟩ (fun hS2 => ?_)
                    clear hS hK K
                    have hS := hS2
                    clear hS2
                    clear HX
                    (try simp only [act_put, act_put_none, List.set_cons_zero, List.set_cons_succ])
                    have hS := And.intro (HI3.out) hS
                    refine held_more (S2 := fun w' : World => IsBy w' (some ⟨g3, 0, none⟩) (flatP rs') ∧ LG 0 w' q' p (64 * (N : Int)) (flatP rs') ((flatP rs').length : Nat) rs' ∧ TxIs w' (some ⟨bA, oA, none⟩) V' rs' ∧ w'.cell? ⟨gr, 1, none⟩ = some (.slice (some ⟨bA, oA, none⟩) rs'.length c') ∧ Nib w' ∧ Hid (Below w.heap.size w w') ∧ Hid (PW w.heap.size gr p (64 * (N : Int)) w' q' rs') ∧ IsBy w' A5 (lastT rs')) (fun _ h => h.2) ?_
                    clear HI3
                    refine held_take (i := 17) (by simp only [List.getElem?_toArray, List.getElem?_cons_succ, List.getElem?_cons_zero]; rfl) (by decide +kernel) (by decide +kernel) (by decide +kernel) (by exact fun _ _ _ _ h => h) hS (by rfl) ?_
                    apply Exists.intro
                    refine ⟨fun w' hSw => ?_, ?_⟩
                    · obtain ⟨q_b3, _, _, _, _, _, _, _⟩ := hSw
                      have hcv := convT (c := (flatP rs').length) q_b3
                      go_simp
                      with_reducible rfl
                    (try simp only [act_put, act_put_none, List.set_cons_zero, List.set_cons_succ])
                    refine wpAnyH_ready (rs := [20]) (by decide +kernel) (by simp) ?_
                    refine AllReadyH.cons (i := 20) (by simp only [List.getElem?_toArray, List.getElem?_cons_succ, List.getElem?_cons_zero]; rfl) (fun K hK => ?_) ?_
                    · go_simp
                      go_at_call 10
                      refine (rbytes_any (some ⟨bA, oA, none⟩) c' rs'.length V' rs' _ hS.2.2.1 rfl hrl (fun p hp => by have := HR3'.out p hp; omega) (by have := HFS'.out; omega)).mono ?_
                      rintro e v4 ⟨vb, rfl, hown, hb⟩
                      obtain ⟨Ab, cb, rfl, i1, _, _, _⟩ := hown.isBy
                      have HX := Lib.hid hb
                      have HI4 := Lib.hid i1
                      clear hb hown i1
                      go_simp
                      refine hK.out _ _ ⟨hS.1.below HX.out, hS.2.1.below HX.out, hS.2.2.1.below HX.out, (HX.out.cell (World.block_lt_of_cell? _ _ hS.2.2.2.1)).trans hS.2.2.2.1, hS.2.2.2.2.1.below HX.out, Lib.hid (bthen hS.2.2.2.2.2.1.out HX.out), Lib.hid (hS.2.2.2.2.2.2.1.out.below HX.out), hS.2.2.2.2.2.2.2.below HX.out⟩ (fun hS2 => ?_)
                      clear hS hK K
                      have hS := hS2
                      clear hS2
                      clear HX
                      (try simp only [act_put, act_put_none, List.set_cons_zero, List.set_cons_succ])
                      have hS := And.intro (HI4.out) hS
                      refine held_more (S2 := fun w' : World => IsBy w' Ab (flatP rs') ∧ IsBy w' (some ⟨g3, 0, none⟩) (flatP rs') ∧ LG 0 w' q' p (64 * (N : Int)) (flatP rs') ((flatP rs').length : Nat) rs' ∧ TxIs w' (some ⟨bA, oA, none⟩) V' rs' ∧ w'.cell? ⟨gr, 1, none⟩ = some (.slice (some ⟨bA, oA, none⟩) rs'.length c') ∧ Nib w' ∧ Hid (Below w.heap.size w w') ∧ Hid (PW w.heap.size gr p (64 * (N : Int)) w' q' rs') ∧ IsBy w' A5 (lastT rs')) (fun _ h => h.2) ?_
                      clear HI4
                      refine held_take (i := 21) (by simp only [List.getElem?_toArray, List.getElem?_cons_succ, List.getElem?_cons_zero]; rfl) (by decide +kernel) (by decide +kernel) (by decide +kernel) (by exact fun _ _ _ _ h => h) hS (by rfl) ?_
                      apply Exists.intro
                      refine ⟨fun w' hSw => ?_, ?_⟩
                      · obtain ⟨q_b4, _, _, _, _, _, _, _, _⟩ := hSw
                        have hcv := convT (c := cb) q_b4
                        go_simp
                        with_reducible rfl
                      (try simp only [act_put, act_put_none, List.set_cons_zero, List.set_cons_succ])
                      refine held_take (i := 22) (by simp only [List.getElem?_toArray, List.getElem?_cons_succ, List.getElem?_cons_zero]; rfl) (by decide +kernel) (by decide +kernel) (by decide +kernel) (by exact fun _ _ _ _ h => h) hS (by rfl) ?_
                      apply Exists.intro
                      refine ⟨fun w' hSw => ?_, ?_⟩
                      · go_simp
                        with_reducible rfl
                      (try simp only [act_put, act_put_none, List.set_cons_zero, List.set_cons_succ])
                      refine held_take (i := 23) (by simp only [List.getElem?_toArray, List.getElem?_cons_succ, List.getElem?_cons_zero]; rfl) (by decide +kernel) (by decide +kernel) (by decide +kernel) (by exact fun _ _ _ _ h => h) hS (by rfl) ?_
                      apply Exists.intro
                      refine ⟨fun w' hSw => ?_, ?_⟩
                      · go_simp
                        with_reducible rfl
                      (try simp only [act_put, act_put_none, List.set_cons_zero, List.set_cons_succ])
                      refine held_take (i := 24) (by simp only [List.getElem?_toArray, List.getElem?_cons_succ, List.getElem?_cons_zero]; rfl) (by decide +kernel) (by decide +kernel) (by decide +kernel) (by exact fun _ _ _ _ h => h) hS (by rfl) ?_
                      apply Exists.intro
                      refine ⟨fun w' hSw => ?_, ?_⟩
                      · go_simp
                        with_reducible rfl
                      (try simp only [act_put, act_put_none, List.set_cons_zero, List.set_cons_succ])
                      refine held_take (i := 25) (by simp only [List.getElem?_toArray, List.getElem?_cons_succ, List.getElem?_cons_zero]; rfl) (by decide +kernel) (by decide +kernel) (by decide +kernel) (by exact fun _ _ _ _ h => h) hS (by rfl) ?_
                      apply Exists.intro
                      refine ⟨fun w' hSw => ?_, ?_⟩
                      · go_simp
                        with_reducible rfl
                      (try simp only [act_put, act_put_none, List.set_cons_zero, List.set_cons_succ])
                      refine held_take (i := 26) (by simp only [List.getElem?_toArray, List.getElem?_cons_succ, List.getElem?_cons_zero]; rfl) (by decide +kernel) (by decide +kernel) (by decide +kernel) (by exact fun _ _ _ _ h => h) hS (by rfl) ?_
                      apply Exists.intro
                      refine ⟨fun w' hSw => ?_, ?_⟩
                      · go_simp
                        with_reducible rfl
                      (try simp only [act_put, act_put_none, List.set_cons_zero, List.set_cons_succ])
                      refine held_take (i := 27) (by simp only [List.getElem?_toArray, List.getElem?_cons_succ, List.getElem?_cons_zero]; rfl) (by decide +kernel) (by decide +kernel) (by decide +kernel) (by exact fun _ _ _ _ h => h) hS (by rfl) ?_
                      apply Exists.intro
                      refine ⟨fun w' hSw => ?_, ?_⟩
                      · obtain ⟨_, _, _, _, q_c1, _, _, _, _⟩ := hSw
                        go_simp
                        with_reducible rfl
                      (try simp only [act_put, act_put_none, List.set_cons_zero, List.set_cons_succ])
                      refine held_take (i := 28) (by simp only [List.getElem?_toArray, List.getElem?_cons_succ, List.getElem?_cons_zero]; rfl) (by decide +kernel) (by decide +kernel) (by decide +kernel) (by exact fun _ _ _ _ h => h) hS (by rfl) ?_
                      apply Exists.intro
                      refine ⟨fun w' hSw => ?_, ?_⟩
                      · go_simp
                        with_reducible rfl
                      (try simp only [act_put, act_put_none, List.set_cons_zero, List.set_cons_succ])
                      refine held_take (i := 29) (by simp only [List.getElem?_toArray, List.getElem?_cons_succ, List.getElem?_cons_zero]; rfl) (by decide +kernel) (by decide +kernel) (by decide +kernel) (by exact fun _ _ _ _ h => h) hS (by rfl) ?_
                      apply Exists.intro
                      refine ⟨fun w' hSw => ?_, ?_⟩
                      · go_simp
                        with_reducible rfl
                      (try simp only [act_put, act_put_none, List.set_cons_zero, List.set_cons_succ])
                      refine held_take (i := 30) (by simp only [List.getElem?_toArray, List.getElem?_cons_succ, List.getElem?_cons_zero]; rfl) (by decide +kernel) (by decide +kernel) (by decide +kernel) (by exact fun _ _ _ _ h => h) hS (by rfl) ?_
                      apply Exists.intro
                      refine ⟨fun w' hSw => ?_, ?_⟩
                      · go_simp
                        with_reducible rfl
                      (try simp only [act_put, act_put_none, List.set_cons_zero, List.set_cons_succ])
                      refine held_take (i := 31) (by simp only [List.getElem?_toArray, List.getElem?_cons_succ, List.getElem?_cons_zero]; rfl) (by decide +kernel) (by decide +kernel) (by decide +kernel) (by exact fun _ _ _ _ h => h) hS (by rfl) ?_
                      apply Exists.intro
                      refine ⟨fun w' hSw => ?_, ?_⟩
                      · go_simp
                        with_reducible rfl
                      (try simp only [act_put, act_put_none, List.set_cons_zero, List.set_cons_succ])
                      refine held_take (i := 32) (by simp only [List.getElem?_toArray, List.getElem?_cons_succ, List.getElem?_cons_zero]; rfl) (by decide +kernel) (by decide +kernel) (by decide +kernel) (by exact fun _ _ _ _ h => h) hS (by rfl) ?_
                      apply Exists.intro
                      refine ⟨fun w' hSw => ?_, ?_⟩
                      · go_simp
                        with_reducible rfl
                      (try simp only [act_put, act_put_none, List.set_cons_zero, List.set_cons_succ])
                      refine held_take (i := 33) (by simp only [List.getElem?_toArray, List.getElem?_cons_succ, List.getElem?_cons_zero]; rfl) (by decide +kernel) (by decide +kernel) (by decide +kernel) (by exact fun _ _ _ _ h => h) hS (by rfl) ?_
                      apply Exists.intro
                      refine ⟨fun w' hSw => ?_, ?_⟩
                      · go_simp
                        with_reducible rfl
                      (try simp only [act_put, act_put_none, List.set_cons_zero, List.set_cons_succ])
                      refine held_take (i := 34) (by simp only [List.getElem?_toArray, List.getElem?_cons_succ, List.getElem?_cons_zero]; rfl) (by decide +kernel) (by decide +kernel) (by decide +kernel) (by exact fun _ _ _ _ h => h) hS (by rfl) ?_
                      apply Exists.intro
                      refine ⟨fun w' hSw => ?_, ?_⟩
                      · go_simp
                        with_reducible rfl
                      (try simp only [act_put, act_put_none, List.set_cons_zero, List.set_cons_succ])
                      refine held_take (i := 35) (by simp only [List.getElem?_toArray, List.getElem?_cons_succ, List.getElem?_cons_zero]; rfl) (by decide +kernel) (by decide +kernel) (by decide +kernel) (by exact fun _ _ _ _ h => h) hS (by rfl) ?_
                      apply Exists.intro
                      refine ⟨fun w' hSw => ?_, ?_⟩
                      · go_simp
                        with_reducible rfl
                      (try simp only [act_put, act_put_none, List.set_cons_zero, List.set_cons_succ])
                      refine held_take (i := 36) (by simp only [List.getElem?_toArray, List.getElem?_cons_succ, List.getElem?_cons_zero]; rfl) (by decide +kernel) (by decide +kernel) (by decide +kernel) (by exact fun _ _ _ _ h => h) hS (by rfl) ?_
                      apply Exists.intro
                      refine ⟨fun w' hSw => ?_, ?_⟩
                      · obtain ⟨_, _, _, _, _, _, _, _, q_by⟩ := hSw
                        have hcv := convT (c := c5) q_by
                        go_simp
                        with_reducible rfl
                      (try simp only [act_put, act_put_none, List.set_cons_zero, List.set_cons_succ])
                      refine held_take (i := 37) (by simp only [List.getElem?_toArray, List.getElem?_cons_succ, List.getElem?_cons_zero]; rfl) (by decide +kernel) (by decide +kernel) (by decide +kernel) (by exact fun _ _ _ _ h => h) hS (by rfl) ?_
                      apply Exists.intro
                      refine ⟨fun w' hSw => ?_, ?_⟩
                      · go_simp
                        with_reducible rfl
                      (try simp only [act_put, act_put_none, List.set_cons_zero, List.set_cons_succ])
                      refine held_take (i := 38) (by simp only [List.getElem?_toArray, List.getElem?_cons_succ, List.getElem?_cons_zero]; rfl) (by decide +kernel) (by decide +kernel) (by decide +kernel) (by exact fun _ _ _ _ h => h) hS (by rfl) ?_
                      apply Exists.intro
                      refine ⟨fun w' hSw => ?_, ?_⟩
                      · obtain ⟨_, _, _, _, q_c1, _, _, _, _⟩ := hSw
                        go_simp
                        with_reducible rfl
                      (try simp only [act_put, act_put_none, List.set_cons_zero, List.set_cons_succ])
                      refine held_take (i := 39) (by simp only [List.getElem?_toArray, List.getElem?_cons_succ, List.getElem?_cons_zero]; rfl) (by decide +kernel) (by decide +kernel) (by decide +kernel) (by exact fun _ _ _ _ h => h) hS (by rfl) ?_
                      apply Exists.intro
                      refine ⟨fun w' hSw => ?_, ?_⟩
                      · go_simp
                        with_reducible rfl
                      (try simp only [act_put, act_put_none, List.set_cons_zero, List.set_cons_succ])
                      refine held_take (i := 40) (by simp only [List.getElem?_toArray, List.getElem?_cons_succ, List.getElem?_cons_zero]; rfl) (by decide +kernel) (by decide +kernel) (by decide +kernel) (by exact fun _ _ _ _ h => h) hS (by rfl) ?_
                      apply Exists.intro
                      refine ⟨fun w' hSw => ?_, ?_⟩
                      · obtain ⟨_, _, _, _, q_c1, _, _, _, _⟩ := hSw
                        go_simp
                        with_reducible rfl
                      (try simp only [act_put, act_put_none, List.set_cons_zero, List.set_cons_succ])
                      refine held_take (i := 41) (by simp only [List.getElem?_toArray, List.getElem?_cons_succ, List.getElem?_cons_zero]; rfl) (by decide +kernel) (by decide +kernel) (by decide +kernel) (by exact fun _ _ _ _ h => h) hS (by rfl) ?_
                      apply Exists.intro
                      refine ⟨fun w' hSw => ?_, ?_⟩
                      · go_simp
                        with_reducible rfl
                      (try simp only [act_put, act_put_none, List.set_cons_zero, List.set_cons_succ])
                      refine held_take (i := 42) (by simp only [List.getElem?_toArray, List.getElem?_cons_succ, List.getElem?_cons_zero]; rfl) (by decide +kernel) (by decide +kernel) (by decide +kernel) (by exact fun _ _ _ _ h => h) hS (by rfl) ?_
                      apply Exists.intro
                      refine ⟨fun w' hSw => ?_, ?_⟩
                      · go_simp
                        with_reducible rfl
                      (try simp only [act_put, act_put_none, List.set_cons_zero, List.set_cons_succ])
                      refine held_take (i := 43) (by simp only [List.getElem?_toArray, List.getElem?_cons_succ, List.getElem?_cons_zero]; rfl) (by decide +kernel) (by decide +kernel) (by decide +kernel) (by exact fun _ _ _ _ h => h) hS (by rfl) ?_
                      apply Exists.intro
                      refine ⟨fun w' hSw => ?_, ?_⟩
                      · go_simp
                        with_reducible rfl
                      (try simp only [act_put, act_put_none, List.set_cons_zero, List.set_cons_succ])
                      refine held_take (i := 44) (by simp only [List.getElem?_toArray, List.getElem?_cons_succ, List.getElem?_cons_zero]; rfl) (by decide +kernel) (by decide +kernel) (by decide +kernel) (by exact fun _ _ _ _ h => h) hS (by rfl) ?_
                      apply Exists.intro
                      refine ⟨fun w' hSw => ?_, ?_⟩
                      · obtain ⟨_, _, _, q_tx, _, _, _, _, _⟩ := hSw
                        obtain ⟨b9, o9, e9, d9⟩ := q_tx.1.cell m hml
                        injection e9 with e9
                        injection e9 with e9 e10
                        subst e9 e10
                        rw [hvm] at d9
                        go_simp
                        with_reducible rfl
                      (try simp only [act_put, act_put_none, List.set_cons_zero, List.set_cons_succ])
                      refine held_take (i := 45) (by simp only [List.getElem?_toArray, List.getElem?_cons_succ, List.getElem?_cons_zero]; rfl) (by decide +kernel) (by decide +kernel) (by decide +kernel) (by exact fun _ _ _ _ h => h) hS (by rfl) ?_
                      apply Exists.intro
                      refine ⟨fun w' hSw => ?_, ?_⟩
                      · obtain ⟨_, _, _, q_tx, _, _, _, _, _⟩ := hSw
                        have hy9 := q_tx.1.by_ m hml
                        rw [hvm] at hy9
                        have hcv := convT (c := cm) hy9
                        go_simp
                        with_reducible rfl
                      (try simp only [act_put, act_put_none, List.set_cons_zero, List.set_cons_succ])
                      refine held_take (i := 46) (by simp only [List.getElem?_toArray, List.getElem?_cons_succ, List.getElem?_cons_zero]; rfl) (by decide +kernel) (by decide +kernel) (by decide +kernel) (by exact fun _ _ _ _ h => h) hS (by rfl) ?_
                      apply Exists.intro
                      refine ⟨fun w' hSw => ?_, ?_⟩
                      · go_simp
                        with_reducible rfl
                      (try simp only [act_put, act_put_none, List.set_cons_zero, List.set_cons_succ])
                      refine held_take (i := 47) (by simp only [List.getElem?_toArray, List.getElem?_cons_succ, List.getElem?_cons_zero]; rfl) (by decide +kernel) (by decide +kernel) (by decide +kernel) (by exact fun _ _ _ _ h => h) hS (by rfl) ?_
                      apply Exists.intro
                      refine ⟨fun w' hSw => ?_, ?_⟩
                      · go_simp
                        with_reducible rfl
                      (try simp only [act_put, act_put_none, List.set_cons_zero, List.set_cons_succ])
                      refine held_take (i := 48) (by simp only [List.getElem?_toArray, List.getElem?_cons_succ, List.getElem?_cons_zero]; rfl) (by decide +kernel) (by decide +kernel) (by decide +kernel) (by exact fun _ _ _ _ h => h) hS (by rfl) ?_
                      apply Exists.intro
                      refine ⟨fun w' hSw => ?_, ?_⟩
                      · go_simp
                        with_reducible rfl
                      (try simp only [act_put, act_put_none, List.set_cons_zero, List.set_cons_succ])
                      refine wpAnyH_done (by decide +kernel) ?_ _
                      have HSF := Lib.hid hS.2.2.2.2.2.2.1.out
                      have HPF := Lib.hid hS.2.2.2.2.2.2.2.1.out
                      clear hS
                      go_wp2_with fail
                      go_roundw
                      case rel => exact ⟨k + 1, q', rs', by omega, by go_num, rfl, HPF.out, by first | omega | simp, HR3'.out, HFS'.out, HSF.out⟩
                      case measure => simp [intOf]; omega
                    exact AllReadyH.nil
                  exact AllReadyH.nil
                exact AllReadyH.nil
              exact AllReadyH.nil
            exact AllReadyH.nil
      · obtain rfl : k = L := by omega
        clear hb
        go_wp2_with fail
        refine (awake12 wr HNr.out).mono ?_
        rintro e w9 ⟨rfl, hb9⟩
        have HB9 := Lib.hid (bthen HB.out hb9)
        clear hb9
        go_wp2_with fail
        go_ret
        exact ⟨rfl, HB9.out⟩
end Go.Proofs.YtfnbcafilbafgaaDoor
