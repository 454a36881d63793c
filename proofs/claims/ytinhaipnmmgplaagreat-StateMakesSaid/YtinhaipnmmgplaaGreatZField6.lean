/-
  Layer 13 (plan): whether fields may be; the reference's. Layer 10: the reference's Says.
-/
import Derived.Test.YtinhaipnmmgplaaGreatZWire1
import Derived.Laws.Cover1
namespace Go.Proofs.YtinhaipnmmgplaaGreat
set_option maxRecDepth 20000
open Go.RowKit
set_option linter.unusedSimpArgs false
attribute [local go_sem] rowCells rowAt_drewN get_ints getE_ints set_ints size_ints rowAt_alloc rowAt_drew setRow_alloc setRow_drewN setRow_drew setCell_alloc setCell_drewN splice_upd splice_put splice_all load_vec_cut load_vecs_cut load_rights_cut load_counter store_vec store_rights store_counter eql_vec neq_vec index_vec eql_rights neq_rights eql_counter index_vecs cut_ints sub_zero
attribute [local go_sem ↓] xload_vec xstore_vec xalloc_vec xeql_vec xneq_vec xindex_vec xbuild_vec0 xload_rights xstore_rights xalloc_rights xeql_rights xneq_rights xbuild_rights0 xload_vecs xindex_vecs xload_counter xstore_counter xalloc_counter xbuild_counter0 xeql_counter xbuild_counter3
attribute [local go_sem] rowAt_setRow rowAt_setCell load_vec_cut_later load_rights_later load_counter_later Later.cell Later.frozen build3_ints
attribute [local go_sem ↓] xload_field xstore_field xalloc_field xload_lock
attribute [local go_sem] load_field load_field_later store_field load_counter_cut load_lock_cut load_lock_later Fld.size Fld.get0 Fld.get1 Fld.get2 Fld.get586 Fld.getE0 Fld.getE1 Fld.getE2 Fld.getE586 Fld.cut_cnt Fld.cut_lock Fld.cut_all Fld.splice_all strT_size
attribute [local go_sem ↓] xload_hold xstore_hold xalloc_hold
attribute [local go_sem] load_hold load_hold_later store_hold strT_size
def befB (l r : List UInt8) : Bool := Op.bytesLess l r
theorem strT_toList (l : List UInt8) : (strT l).toList = l := by rw [ByteArray.toList_eq]; simp [strT]
theorem str_geq (w : World) (a b : List UInt8) : (binOp .geq 9 (.string (strT a)) (.string (strT b))).run Tryz.prog w = .ok (.bool (!befB a b)) w := by
  rw [binOp_string_geq, strT_toList, strT_toList]; rfl
theorem befB_cons (a b : UInt8) (x y : List UInt8) : befB (a :: x) (b :: y) = if a.toNat = b.toNat then befB x y else decide (a.toNat < b.toNat) := by
  show (decide (a < b) || (a == b && Op.bytesLess x y)) = _
  have e : decide (a < b) = decide (a.toNat < b.toNat) := rfl
  by_cases h : a.toNat = b.toNat
  · have : a = b := UInt8.toNat_inj.1 h
    subst this
    simp [befB]
  · have : ¬ a = b := fun h2 => h (by rw [h2])
    rw [if_neg h, e]
    simp [this]
theorem drop_get {l : List UInt8} {k : Nat} (h : k < l.length) : l.drop k = l.getD k 0 :: l.drop (k + 1) := by
  rw [List.drop_eq_getElem_cons h]
  simp [List.getD, h]
theorem fieldRight_of {F : Fld} {b : Bool} (e : rightF F = b) {w : World} (h : FldOk w F) : Calls Tryz.prog 33 #[.agg F.cells] w fun e w' => e = .returned (.bool b) ∧ Below w.heap.size w w' := by rw [← e]; exact fieldRight_any F w h
theorem rfieldRight_of {F : Fld} {b : Bool} (e : rightF F = b) {w : World} (h : FldOk w F) : Calls Tryz.prog 16 #[.agg F.cells] w fun e w' => e = .returned (.bool b) ∧ Below w.heap.size w w' := by rw [← e]; exact rfieldRight_any F w h
set_option maxHeartbeats 1000000 in
theorem rbefore_any (a b : List UInt8) (ha : a.length ≤ 9223372036854775807) (_hb : b.length ≤ 9223372036854775807) (w : World) : Calls Tryz.prog 17 #[.string (strT a), .string (strT b)] w fun e w' => e = .returned (.bool (befB a b)) ∧ Below w.heap.size w w' := by
  go_enter Tryz.func17, Tryz.ntmps17
  go_wp2_with fail
  go_loopw [5] (fun i w' => ∃ k : Nat, k ≤ a.length ∧ k ≤ b.length ∧ i = .int .i64 k ∧ befB a b = befB (a.drop k) (b.drop k) ∧ Below w.heap.size w w') (fun i _ => a.length - (intOf i).toNat)
  case atStart => exact ⟨0, Nat.zero_le _, Nat.zero_le _, rfl, rfl, Below.refl _ _⟩
  case round =>
    rename_i wr
    obtain ⟨k, hka, hkb, rfl, he, hbl⟩ := hrel
    have HE := Lib.hid he
    have HB := Lib.hid hbl
    clear he hbl
    by_cases h1 : k < a.length
    · by_cases h2 : k < b.length
      · have hsa : k < (strT a).size := by rw [strT_size]; exact h1
        have hsb : k < (strT b).size := by rw [strT_size]; exact h2
        have HC : Hid (befB a b = if (a.getD k 0).toNat = (b.getD k 0).toNat then befB (a.drop (k + 1)) (b.drop (k + 1)) else decide ((a.getD k 0).toNat < (b.getD k 0).toNat)) := Lib.hid (by rw [HE.out, drop_get h1, drop_get h2, befB_cons])
        obtain ⟨x, hx⟩ : ∃ x, (a.getD k 0).toNat = x := ⟨_, rfl⟩
        obtain ⟨y, hy⟩ : ∃ y, (b.getD k 0).toNat = y := ⟨_, rfl⟩
        have ex : (strT a)[k].toNat = x := by rw [strT_get]; exact hx
        have ey : (strT b)[k].toNat = y := by rw [strT_get]; exact hy
        rw [hx, hy] at HC
        clear hx hy HE
        have g0 : (k : Int) < (a.length : Int) := by omega
        have g1 : (k : Int) < (b.length : Int) := by omega
        by_cases hxy : x = y
        · subst hxy
          have HN : Hid (befB a b = befB (a.drop (k + 1)) (b.drop (k + 1))) := Lib.hid (by rw [HC.out, if_pos rfl])
          clear HC
          go_upto_region 4 with fail
          refine region_quiet (by kernel_rfl) (by kernel_rfl) ?_
          repeat (go_big_quiet_step (fail))
          refine wpQuiet_nil ?_
          intro w1 hb1
          have HB1 := Lib.hid (bthen HB.out hb1)
          clear hb1
          go_wp2_with fail
          go_roundw
          case rel => exact ⟨k + 1, by omega, by omega, by go_num, HN.out, HB1.out⟩
          case measure => simp [intOf]; omega
        · have hxy2 : ((x : Int) == (y : Int)) = false := beq_eq_false_iff_ne.2 (by omega)
          have hxy3 : ¬ (x : Int) = (y : Int) := by omega
          have HN : Hid (befB a b = decide ((x : Int) < (y : Int))) := Lib.hid (by rw [HC.out, if_neg hxy]; exact decide_eq_decide.2 (by omega))
          clear HC
          go_upto_region 4 with fail
          refine region_quiet (by kernel_rfl) (by kernel_rfl) ?_
          repeat (go_big_quiet_step (fail))
          refine wpQuiet_nil ?_
          intro w1 hb1
          have HB1 := Lib.hid (bthen HB.out hb1)
          clear hb1
          go_upto_region 5 with fail
          refine region_quiet (by kernel_rfl) (by kernel_rfl) ?_
          repeat (go_big_quiet_step (fail))
          refine wpQuiet_nil ?_
          intro w2 hb2
          have HB2 := Lib.hid (bthen HB1.out hb2)
          clear hb2
          go_wp2_with fail
          go_ret
          exact ⟨by rw [HN.out]; first | rfl | simp, HB2.out⟩
      · have hkb2 : k = b.length := by omega
        have g0 : (k : Int) < (a.length : Int) := by omega
        have g1 : ¬ (k : Int) < (b.length : Int) := by omega
        have g2 : ¬ (a.length : Int) < (b.length : Int) := by omega
        have g3 : ¬ a.length < b.length := by omega
        have HN : Hid (befB a b = false) := Lib.hid (by rw [HE.out, show b.drop k = [] from List.drop_eq_nil_of_le (by omega)]; cases a.drop k <;> rfl)
        clear HE
        go_wp2_with fail
        go_ret
        exact ⟨by rw [HN.out]; first | rfl | simp [*], HB.out⟩
    · have hka2 : k = a.length := by omega
      have g0 : ¬ (k : Int) < (a.length : Int) := by omega
      have HN : Hid (befB a b = decide ((a.length : Int) < (b.length : Int))) := Lib.hid (by
        rw [HE.out, show a.drop k = [] from List.drop_eq_nil_of_le (by omega)]
        by_cases h3 : k < b.length
        · rw [drop_get h3, decide_eq_true (by omega)]; rfl
        · rw [show b.drop k = [] from List.drop_eq_nil_of_le (by omega), decide_eq_false (by omega)]; rfl)
      clear HE
      go_wp2_with fail
      go_ret
      exact ⟨by rw [HN.out]; first | rfl | simp, HB.out⟩
theorem rbefore_at {a b : List UInt8} {r : Bool} (e : befB a b = r) (ha : a.length ≤ 9223372036854775807) (hb : b.length ≤ 9223372036854775807) (w : World) : Calls Tryz.prog 17 #[.string (strT a), .string (strT b)] w fun e w' => e = .returned (.bool r) ∧ Below w.heap.size w w' := by rw [← e]; exact rbefore_any a b ha hb w
def fldAt (L : Nat → Fld) : Nat → Bool
  | 0 => rightF (L 0)
  | i + 1 => rightF (L (i + 1)) && befB (L i).name (L (i + 1)).name
def fldsB (n : Nat) (L : Nat → Fld) : Bool := (List.range n).all (fldAt L) && decide (n ≤ 4)
theorem flds_no {n : Nat} {L : Nat → Fld} {i : Nat} (hi : i < n) (h : fldAt L i = false) : fldsB n L = false := by
  have : (List.range n).all (fldAt L) = false := by
    rw [List.all_eq_false]
    exact ⟨i, List.mem_range.2 hi, by simp [h]⟩
  simp [fldsB, this]
theorem flds_yes {n : Nat} {L : Nat → Fld} (h : ∀ i, i < n → fldAt L i = true) : fldsB n L = decide (n ≤ 4) := by
  have : (List.range n).all (fldAt L) = true := by
    rw [List.all_eq_true]
    exact fun i hi => h i (List.mem_range.1 hi)
  simp [fldsB, this]
theorem FldsIs.at_ {w : World} {A : Option Addr} {n : Nat} {L : Nat → Fld} (h : FldsIs w A n L) {i : Nat} (hi : i < n) :
    ∃ b o, A = some ⟨b, o, none⟩ ∧ b < w.heap.size ∧ w.cell? ⟨b, o + i * 587, none⟩ = some (.string (strT (L i).name)) ∧ ∀ w', Below w.heap.size w w' → loadAgg Tryz.prog w' 58 (.pointer (some ⟨b, o + i * 587, none⟩)) = .ok (.value (.agg (L i).cells)) w' := by
  obtain ⟨b, o, h1, h2⟩ := h.cell i hi
  have h3 := h2 0 (by decide)
  rw [Nat.add_zero, Fld.get0] at h3
  refine ⟨b, o, h1, World.block_lt_of_cell? _ _ h3, h3, fun w' hb => ?_⟩
  obtain ⟨b', o', e', h4⟩ := (h.below hb).load hi
  rw [h1] at e'
  injection e' with e'
  injection e' with e1 e2
  subst e1 e2
  exact h4
set_option maxHeartbeats 4000000 in
theorem planFields_any (A : Option Addr) (c n : Nat) (L : Nat → Fld) (w : World) (h : FldsIs w A n L) (hn : n ≤ 9223372036854775807) : Calls Tryz.prog 14 #[.slice A n c] w fun e w' =>
    e = .returned (.bool (fldsB n L)) ∧ Below w.heap.size w w' := by
  have hsg := fun w a b => str_geq w a b
  have H := Lib.hid h
  clear h
  go_enter Tryz.func14, Tryz.ntmps14
  go_wp2_with fail
  go_loopw [7] (fun i w' => ∃ k : Nat, k ≤ n ∧ i = .int .i64 k ∧ (∀ j, j < k → fldAt L j = true) ∧ Below w.heap.size w w') (fun i _ => n - (intOf i).toNat)
  case atStart => exact ⟨0, Nat.zero_le _, rfl, fun j hj => by omega, Below.refl _ _⟩
  case round =>
    rename_i wr
    obtain ⟨k, hk, rfl, hall, hb⟩ := hrel
    have HA := Lib.hid hall
    have HB := Lib.hid hb
    have HI := H.out.below hb
    clear hall hb
    by_cases hlt : k < n
    · cases k with
      | zero =>
        obtain ⟨b, o, rfl, hlb, hnm, hl⟩ := HI.at_ hlt
        rw [Nat.zero_mul, Nat.add_zero] at hnm hl
        have HK := Lib.hid (HI.ok 0 hlt)
        obtain ⟨G, hG⟩ : ∃ G, L 0 = G := ⟨_, rfl⟩
        rw [hG] at hnm hl HK
        have hbg := HK.out.big.1
        have hl1 := hl wr (Below.refl _ _)
        have HKx := Lib.hid (HK.out.below ((Below.refl wr.heap.size wr).alloc (Nat.le_refl _) (.cells G.cells 58)))
        have hlx : ∀ x : Later (wr.alloc (.cells G.cells 58)).heap.size (wr.alloc (.cells G.cells 58)), loadAgg Tryz.prog x.wd 58 (.pointer (some ⟨b, o, none⟩)) = .ok (.value (.agg G.cells)) x.wd := fun x => hl _ (((Below.refl _ _).alloc (Nat.le_refl _) _).trans (x.below.mono (by simp)))
        have hbne := Nat.ne_of_lt hlb
        clear hl HI HK
        cases hB : rightF G with
        | false =>
          have HN : Hid (fldsB n L = false) := Lib.hid (flds_no hlt (by show rightF (L 0) = false; rw [hG, hB]))
          clear HA hG
          go_upto_region 4 with fail
          refine region_quiet (by kernel_rfl) (by kernel_rfl) ?_
          repeat (go_big_quiet_step ((first | (go_at_call 33; exact quiet_call (by simp) (fieldRight_of hB (FldOk.below HKx.out (Later.below _)))))))
          refine wpQuiet_nil ?_
          intro w1 hb1
          have HB1 := Lib.hid (bthen (below_allocS HB.out _) hb1)
          clear hb1
          go_wp2_with fail
          go_ret
          exact ⟨by rw [HN.out]; rfl, HB1.out⟩
        | true =>
          have HC : Hid (fldAt L 0 = true) := Lib.hid (by show rightF (L 0) = true; rw [hG, hB])
          clear hG
          go_upto_region 4 with fail
          refine region_quiet (by kernel_rfl) (by kernel_rfl) ?_
          repeat (go_big_quiet_step ((first | (go_at_call 33; exact quiet_call (by simp) (fieldRight_of hB (FldOk.below HKx.out (Later.below _)))))))
          refine wpQuiet_nil ?_
          intro w1 hb1
          have HB1 := Lib.hid (bthen (below_allocS HB.out _) hb1)
          clear hb1
          go_wp2_with fail
          go_roundw
          case rel =>
            refine ⟨0 + 1, by omega, by go_num, fun j hj => ?_, HB1.out⟩
            by_cases hjk : j = 0
            · rw [hjk]; exact HC.out
            · exact HA.out j (by omega)
          case measure => simp [intOf]; omega
      | succ k =>
        obtain ⟨b, o, rfl, hlb, hnm, hl⟩ := HI.at_ hlt
        have HK := Lib.hid (HI.ok (k + 1) hlt)
        obtain ⟨G, hG⟩ : ∃ G, L (k + 1) = G := ⟨_, rfl⟩
        rw [hG] at hnm hl HK
        have hbg := HK.out.big.1
        have hl1 := hl wr (Below.refl _ _)
        have HKx := Lib.hid (HK.out.below ((Below.refl wr.heap.size wr).alloc (Nat.le_refl _) (.cells G.cells 58)))
        have hlx : ∀ x : Later (wr.alloc (.cells G.cells 58)).heap.size (wr.alloc (.cells G.cells 58)), loadAgg Tryz.prog x.wd 58 (.pointer (some ⟨b, o + (k + 1) * 587, none⟩)) = .ok (.value (.agg G.cells)) x.wd := fun x => hl _ (((Below.refl _ _).alloc (Nat.le_refl _) _).trans (x.below.mono (by simp)))
        have hbne := Nat.ne_of_lt hlb
        obtain ⟨b', o', e', _, hpm, _⟩ := HI.at_ (show k < n by omega)
        injection e' with e'
        injection e' with e1 e2
        subst e1 e2
        have hbp := (HI.ok k (by omega)).big.1
        obtain ⟨G', hG'⟩ : ∃ G, L k = G := ⟨_, rfl⟩
        rw [hG'] at hpm hbp
        clear hl HI HK
        cases hB : rightF G with
        | false =>
          have HN : Hid (fldsB n L = false) := Lib.hid (flds_no hlt (by show (rightF (L (k + 1)) && befB _ _) = false; rw [hG, hB]; rfl))
          clear HA hG hG'
          go_upto_region 4 with fail
          refine region_quiet (by kernel_rfl) (by kernel_rfl) ?_
          repeat (go_big_quiet_step ((first | (go_at_call 33; exact quiet_call (by simp) (fieldRight_of hB (FldOk.below HKx.out (Later.below _)))))))
          refine wpQuiet_nil ?_
          intro w1 hb1
          have HB1 := Lib.hid (bthen (below_allocS HB.out _) hb1)
          clear hb1
          go_wp2_with fail
          go_ret
          exact ⟨by rw [HN.out]; rfl, HB1.out⟩
        | true =>
          cases hD : befB G'.name G.name with
          | false =>
            have HN : Hid (fldsB n L = false) := Lib.hid (flds_no hlt (by show (rightF (L (k + 1)) && befB (L k).name (L (k + 1)).name) = false; rw [hG, hG', hB, hD]; rfl))
            clear HA hG hG'
            have hD2 : Op.bytesLess (strT G'.name).toList (strT G.name).toList = false := (by rw [strT_toList, strT_toList]; exact hD)
            go_upto_region 4 with fail
            refine region_quiet (by kernel_rfl) (by kernel_rfl) ?_
            repeat (go_big_quiet_step ((first | (go_at_call 33; exact quiet_call (by simp) (fieldRight_of hB (FldOk.below HKx.out (Later.below _)))))))
            refine wpQuiet_nil ?_
            intro w1 hb1
            have HB1 := Lib.hid (bthen (below_allocS HB.out _) hb1)
            clear hb1
            go_wp2_with fail
            go_ret
            exact ⟨by rw [HN.out]; rfl, HB1.out⟩
          | true =>
            have HC : Hid (fldAt L (k + 1) = true) := Lib.hid (by show (rightF (L (k + 1)) && befB (L k).name (L (k + 1)).name) = true; rw [hG, hG', hB, hD]; rfl)
            clear hG hG'
            have hD2 : Op.bytesLess (strT G'.name).toList (strT G.name).toList = true := (by rw [strT_toList, strT_toList]; exact hD)
            go_upto_region 4 with fail
            refine region_quiet (by kernel_rfl) (by kernel_rfl) ?_
            repeat (go_big_quiet_step ((first | (go_at_call 33; exact quiet_call (by simp) (fieldRight_of hB (FldOk.below HKx.out (Later.below _)))))))
            refine wpQuiet_nil ?_
            intro w1 hb1
            have HB1 := Lib.hid (bthen (below_allocS HB.out _) hb1)
            clear hb1
            go_wp2_with fail
            go_roundw
            case rel =>
              refine ⟨(k + 1) + 1, by omega, by go_num, fun j hj => ?_, HB1.out⟩
              by_cases hjk : j = (k + 1)
              · rw [hjk]; exact HC.out
              · exact HA.out j (by omega)
            case measure => simp [intOf]; omega
    · have hkk : k = n := by omega
      subst hkk
      have HN : Hid (fldsB k L = decide (k ≤ 4)) := Lib.hid (flds_yes HA.out)
      clear HA HI
      go_wp2_with fail
      go_ret
      refine ⟨?_, HB.out⟩
      rw [HN.out, show decide (k ≤ 4) = decide ((k : Int) ≤ 4) from decide_eq_decide.2 (by omega)]
      first | rfl | simp
set_option maxHeartbeats 4000000 in
theorem rplanFields_any (A : Option Addr) (c n : Nat) (L : Nat → Fld) (w : World) (h : FldsIs w A n L) (hn : n ≤ 9223372036854775807) : Calls Tryz.prog 7 #[.slice A n c] w fun e w' =>
    e = .returned (.bool (fldsB n L)) ∧ Below w.heap.size w w' := by
  have hsg := fun w a b => str_geq w a b
  have H := Lib.hid h
  clear h
  go_enter Tryz.func7, Tryz.ntmps7
  go_wp2_with fail
  go_loopw [3] (fun i w' => ∃ k : Nat, k ≤ n ∧ i = .int .i64 k ∧ (∀ j, j < k → fldAt L j = true) ∧ Below w.heap.size w w') (fun i _ => n - (intOf i).toNat)
  case atStart => exact ⟨0, Nat.zero_le _, rfl, fun j hj => by omega, Below.refl _ _⟩
  case round =>
    rename_i wr
    obtain ⟨k, hk, rfl, hall, hb⟩ := hrel
    have HA := Lib.hid hall
    have HB := Lib.hid hb
    have HI := H.out.below hb
    clear hall hb
    by_cases hlt : k < n
    · cases k with
      | zero =>
        obtain ⟨b, o, rfl, hlb, hnm, hl⟩ := HI.at_ hlt
        rw [Nat.zero_mul, Nat.add_zero] at hnm hl
        have HK := Lib.hid (HI.ok 0 hlt)
        obtain ⟨G, hG⟩ : ∃ G, L 0 = G := ⟨_, rfl⟩
        rw [hG] at hnm hl HK
        have hbg := HK.out.big.1
        have HKx := HK
        have hlx : ∀ x : Later wr.heap.size wr, loadAgg Tryz.prog x.wd 58 (.pointer (some ⟨b, o, none⟩)) = .ok (.value (.agg G.cells)) x.wd := fun x => hl _ x.below
        have hbne := Nat.ne_of_lt hlb
        clear hl HI HK
        cases hB : rightF G with
        | false =>
          have HN : Hid (fldsB n L = false) := Lib.hid (flds_no hlt (by show rightF (L 0) = false; rw [hG, hB]))
          clear HA hG
          go_upto_region 4 with fail
          refine region_quiet (by kernel_rfl) (by kernel_rfl) ?_
          repeat (go_big_quiet_step ((first | (go_at_call 16; exact quiet_call (by simp) (rfieldRight_of hB (FldOk.below HKx.out (Later.below _)))) | (go_at_call 17; exact quiet_call (by simp) (rbefore_at hD hbp hbg _)))))
          refine wpQuiet_nil ?_
          intro w1 hb1
          have HB1 := Lib.hid (bthen (HB.out) hb1)
          clear hb1
          go_wp2_with fail
          go_ret
          exact ⟨by rw [HN.out]; rfl, HB1.out⟩
        | true =>
          have HC : Hid (fldAt L 0 = true) := Lib.hid (by show rightF (L 0) = true; rw [hG, hB])
          clear hG
          go_upto_region 4 with fail
          refine region_quiet (by kernel_rfl) (by kernel_rfl) ?_
          repeat (go_big_quiet_step ((first | (go_at_call 16; exact quiet_call (by simp) (rfieldRight_of hB (FldOk.below HKx.out (Later.below _)))) | (go_at_call 17; exact quiet_call (by simp) (rbefore_at hD hbp hbg _)))))
          refine wpQuiet_nil ?_
          intro w1 hb1
          have HB1 := Lib.hid (bthen (HB.out) hb1)
          clear hb1
          go_wp2_with fail
          go_roundw
          case rel =>
            refine ⟨0 + 1, by omega, by go_num, fun j hj => ?_, HB1.out⟩
            by_cases hjk : j = 0
            · rw [hjk]; exact HC.out
            · exact HA.out j (by omega)
          case measure => simp [intOf]; omega
      | succ k =>
        obtain ⟨b, o, rfl, hlb, hnm, hl⟩ := HI.at_ hlt
        have HK := Lib.hid (HI.ok (k + 1) hlt)
        obtain ⟨G, hG⟩ : ∃ G, L (k + 1) = G := ⟨_, rfl⟩
        rw [hG] at hnm hl HK
        have hbg := HK.out.big.1
        have HKx := HK
        have hlx : ∀ x : Later wr.heap.size wr, loadAgg Tryz.prog x.wd 58 (.pointer (some ⟨b, o + (k + 1) * 587, none⟩)) = .ok (.value (.agg G.cells)) x.wd := fun x => hl _ x.below
        have hbne := Nat.ne_of_lt hlb
        obtain ⟨b', o', e', _, hpm, _⟩ := HI.at_ (show k < n by omega)
        injection e' with e'
        injection e' with e1 e2
        subst e1 e2
        have hbp := (HI.ok k (by omega)).big.1
        obtain ⟨G', hG'⟩ : ∃ G, L k = G := ⟨_, rfl⟩
        rw [hG'] at hpm hbp
        clear hl HI HK
        cases hB : rightF G with
        | false =>
          have HN : Hid (fldsB n L = false) := Lib.hid (flds_no hlt (by show (rightF (L (k + 1)) && befB _ _) = false; rw [hG, hB]; rfl))
          clear HA hG hG'
          go_upto_region 4 with fail
          refine region_quiet (by kernel_rfl) (by kernel_rfl) ?_
          repeat (go_big_quiet_step ((first | (go_at_call 16; exact quiet_call (by simp) (rfieldRight_of hB (FldOk.below HKx.out (Later.below _)))) | (go_at_call 17; exact quiet_call (by simp) (rbefore_at hD hbp hbg _)))))
          refine wpQuiet_nil ?_
          intro w1 hb1
          have HB1 := Lib.hid (bthen (HB.out) hb1)
          clear hb1
          go_wp2_with fail
          go_ret
          exact ⟨by rw [HN.out]; rfl, HB1.out⟩
        | true =>
          cases hD : befB G'.name G.name with
          | false =>
            have HN : Hid (fldsB n L = false) := Lib.hid (flds_no hlt (by show (rightF (L (k + 1)) && befB (L k).name (L (k + 1)).name) = false; rw [hG, hG', hB, hD]; rfl))
            clear HA hG hG'
            go_upto_region 4 with fail
            refine region_quiet (by kernel_rfl) (by kernel_rfl) ?_
            repeat (go_big_quiet_step ((first | (go_at_call 16; exact quiet_call (by simp) (rfieldRight_of hB (FldOk.below HKx.out (Later.below _)))) | (go_at_call 17; exact quiet_call (by simp) (rbefore_at hD hbp hbg _)))))
            refine wpQuiet_nil ?_
            intro w1 hb1
            have HB1 := Lib.hid (bthen (HB.out) hb1)
            clear hb1
            go_wp2_with fail
            go_ret
            exact ⟨by rw [HN.out]; rfl, HB1.out⟩
          | true =>
            have HC : Hid (fldAt L (k + 1) = true) := Lib.hid (by show (rightF (L (k + 1)) && befB (L k).name (L (k + 1)).name) = true; rw [hG, hG', hB, hD]; rfl)
            clear hG hG'
            go_upto_region 4 with fail
            refine region_quiet (by kernel_rfl) (by kernel_rfl) ?_
            repeat (go_big_quiet_step ((first | (go_at_call 16; exact quiet_call (by simp) (rfieldRight_of hB (FldOk.below HKx.out (Later.below _)))) | (go_at_call 17; exact quiet_call (by simp) (rbefore_at hD hbp hbg _)))))
            refine wpQuiet_nil ?_
            intro w1 hb1
            have HB1 := Lib.hid (bthen (HB.out) hb1)
            clear hb1
            go_wp2_with fail
            go_roundw
            case rel =>
              refine ⟨(k + 1) + 1, by omega, by go_num, fun j hj => ?_, HB1.out⟩
              by_cases hjk : j = (k + 1)
              · rw [hjk]; exact HC.out
              · exact HA.out j (by omega)
            case measure => simp [intOf]; omega
    · have hkk : k = n := by omega
      subst hkk
      have HN : Hid (fldsB k L = decide (k ≤ 4)) := Lib.hid (flds_yes HA.out)
      clear HA HI
      go_wp2_with fail
      go_ret
      refine ⟨?_, HB.out⟩
      rw [HN.out, show decide (k ≤ 4) = decide ((k : Int) ≤ 4) from decide_eq_decide.2 (by omega)]
      first | rfl | simp
end Go.Proofs.YtinhaipnmmgplaaGreat
