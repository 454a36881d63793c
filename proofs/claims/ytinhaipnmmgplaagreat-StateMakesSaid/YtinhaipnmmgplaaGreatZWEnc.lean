/-
  Layer 10 (wire): a field as bytes.
-/
import Derived.Test.YtinhaipnmmgplaaGreatZGK
import Derived.Test.YtinhaipnmmgplaaGreatZWire1
import Derived.Test.YtinhaipnmmgplaaGreatZGI
import Derived.Test.YtinhaipnmmgplaaGreatZGA
import Derived.Test.YtinhaipnmmgplaaGreatZMsgR
import Derived.Deep.CutRange
import Derived.Deep.CutBlock
namespace Go.Proofs.YtinhaipnmmgplaaGreat
set_option maxRecDepth 20000
open Go.RowKit
set_option linter.unusedSimpArgs false
set_option linter.unusedVariables false
attribute [local go_sem] rowCells rowAt_drewN get_ints getE_ints set_ints size_ints rowAt_alloc rowAt_drew setRow_alloc setRow_drewN setRow_drew setCell_alloc setCell_drewN splice_upd splice_put splice_all load_vec_cut load_vecs_cut load_rights_cut load_counter store_vec store_rights store_counter eql_vec neq_vec index_vec eql_rights neq_rights eql_counter index_vecs cut_ints sub_zero
attribute [local go_sem ↓] xload_vec xstore_vec xalloc_vec xeql_vec xneq_vec xindex_vec xbuild_vec0 xload_rights xstore_rights xalloc_rights xeql_rights xneq_rights xbuild_rights0 xload_vecs xindex_vecs xload_counter xstore_counter xalloc_counter xbuild_counter0 xeql_counter xbuild_counter3
attribute [local go_sem] rowAt_setRow rowAt_setCell load_vec_cut_later load_rights_later load_counter_later Later.cell Later.frozen build3_ints
attribute [local go_sem ↓] xload_field xstore_field xalloc_field xload_lock
attribute [local go_sem] load_field load_field_later store_field load_counter_cut load_lock_cut load_lock_later Fld.size Fld.get0 Fld.get1 Fld.get2 Fld.get586 Fld.getE0 Fld.getE1 Fld.getE2 Fld.getE586 Fld.cut_cnt Fld.cut_lock Fld.cut_all Fld.splice_all strT_size


attribute [local go_sem ↓] xload_hold xstore_hold xalloc_hold
attribute [local go_sem] load_hold load_hold_later store_hold
/-- Two numbers. -/
def duo (a b : Int) : Nat → Int := fun i => if i = 0 then a else b
theorem ints_two (w : World) (a b : Int) : IntsIs (w.alloc (.cells #[.int .i64 a, .int .i64 b] 3)) (some ⟨w.heap.size, 0, none⟩) 2 (duo a b) := fun i hi => by
  refine ⟨w.heap.size, 0, rfl, ?_⟩
  rw [Nat.zero_add, cell_of_rowAt (rowAt_alloc_at _ _ _ _ rfl)]
  have : i = 0 ∨ i = 1 := by omega
  rcases this with rfl | rfl <;> rfl
theorem ints_one (w : World) (a : Int) : IntsIs (w.alloc (.cells #[.int .i64 a] 3)) (some ⟨w.heap.size, 0, none⟩) 1 (fun _ => a) := fun i hi => by
  refine ⟨w.heap.size, 0, rfl, ?_⟩
  obtain rfl : i = 0 := by omega
  rw [cell_of_rowAt (rowAt_alloc_at _ _ _ _ rfl)]
  rfl
theorem ints_row (w : World) (c : Array Value) (T : TypeId) (g n : Nat) (f : Nat → Int) (hg : g = w.heap.size) (h : ∀ i, i < n → c[i]? = some (.int .i64 (f i))) : IntsIs (w.alloc (.cells c T)) (some ⟨g, 0, none⟩) n f := fun i hi => by
  subst hg
  exact ⟨w.heap.size, 0, rfl, by rw [Nat.zero_add, cell_of_rowAt (rowAt_alloc_at _ _ _ _ rfl)]; exact h i hi⟩
theorem lt_three {i : Nat} (h : i < 3) : i = 0 ∨ i = 1 ∨ i = 2 := by omega
theorem lt_four {i : Nat} (h : i < 4) : i = 0 ∨ i = 1 ∨ i = 2 ∨ i = 3 := by omega
theorem lt_five {i : Nat} (h : i < 5) : i = 0 ∨ i = 1 ∨ i = 2 ∨ i = 3 ∨ i = 4 := by omega
theorem ints_three (w : World) (f : Nat → Int) : IntsIs (w.alloc (.cells #[.int .i64 (f 0), .int .i64 (f 1), .int .i64 (f 2)] 3)) (some ⟨w.heap.size, 0, none⟩) 3 f :=
  ints_row w _ _ _ 3 f rfl fun i hi => by rcases lt_three hi with rfl | rfl | rfl <;> rfl
theorem ints_four (w : World) (f : Nat → Int) : IntsIs (w.alloc (.cells #[.int .i64 (f 0), .int .i64 (f 1), .int .i64 (f 2), .int .i64 (f 3)] 3)) (some ⟨w.heap.size, 0, none⟩) 4 f :=
  ints_row w _ _ _ 4 f rfl fun i hi => by rcases lt_four hi with rfl | rfl | rfl | rfl <;> rfl
theorem ints_five (w : World) (f : Nat → Int) {g : Nat} (hg : g = w.heap.size) : IntsIs (w.alloc (.cells #[.int .i64 (f 0), .int .i64 (f 1), .int .i64 (f 2), .int .i64 (f 3), .int .i64 (f 4)] 3)) (some ⟨g, 0, none⟩) 5 f :=
  ints_row w _ _ _ 5 f hg fun i hi => by rcases lt_five hi with rfl | rfl | rfl | rfl | rfl <;> rfl
theorem vecP_one (g o n : Nat) : ∀ u ∈ vecP g o n, u.oneCell' = true := fun u hu => by
  obtain ⟨j, _, rfl⟩ := List.mem_map.1 hu
  rfl
theorem vecP_add (g o n m : Nat) : vecP g o (n + m) = vecP g o n ++ vecP g (o + 16 * n) m := by
  induction m with
  | zero => simp [vecP]
  | succ m ih => rw [← Nat.add_assoc, vecP_succ, vecP_succ, ih, List.append_assoc, show o + 16 * (n + m) = o + 16 * n + 16 * m by omega]
theorem catN_one (a : Int) : catN 1 (fun _ => a) = numB a := by rw [catN_succ, catN_zero, List.nil_append]
theorem text_at (A : Option Addr) (c : Nat) (l t : List UInt8) (w : World) (hl : IsBy w A l) (hA : A = none → c = 0) (hlen : l.length ≤ 70368744177000) (ht : t.length ≤ 70368744177000) {n : Nat} (hn : n = l.length) :
    Calls Tryz.prog 46 #[.slice A n c, .string (strT t)] w fun e w' => ∃ v, e = .returned v ∧ OwnBy w' w.heap.size v (l ++ (numB t.length ++ t)) ∧ Below w.heap.size w w' := by
  subst hn
  exact text_any A c l t w hl hA hlen ht
theorem Fld.getCnt (F : Fld) (i : Nat) (h : i < 579) : F.cells[3 + i]? = some (.int .i64 (F.cnt i)) := by
  unfold Fld.cells
  rw [get_cellsF _ _ _ (by omega)]
  unfold Fld.val
  rw [if_neg (by omega), if_neg (by omega), if_neg (by omega), if_pos (by omega), Nat.add_sub_cancel_left]
theorem Fld.getLock (F : Fld) (i : Nat) (h : i < 4) : F.cells[582 + i]? = some (.int .i64 (F.lock i)) := by
  unfold Fld.cells
  rw [get_cellsF _ _ _ (by omega)]
  unfold Fld.val
  rw [if_neg (by omega), if_neg (by omega), if_neg (by omega), if_neg (by omega), if_pos (by omega), Nat.add_sub_cancel_left]
/-- The bytes of a field. -/
def preW (v : Int) (F : Fld) : List UInt8 := catN 2 (duo v F.kind) ++ (numB F.name.length ++ F.name) ++ (if v = 3 then numB F.epoch else [])
def cntW (v : Int) (F : Fld) : List UInt8 := catN 579 F.cnt ++ (if v = 1 then [] else numB F.hn ++ catN (5 * F.hn) F.hs)
def fldW (v : Int) (F : Fld) : List UInt8 := preW v F ++ (if F.kind = 2 then catN 4 F.lock else cntW v F)
theorem name_len {l : List UInt8} (h : nameB l = true) : l.length ≤ 8 := by
  simp only [nameB, Bool.and_eq_true, decide_eq_true_eq] at h
  exact h.2
theorem rightF_name {F : Fld} (h : rightF F = true) : nameB F.name = true := by
  simp only [rightF, Bool.and_eq_true] at h
  exact h.1.1.1
theorem rightF_kind {F : Fld} (h : rightF F = true) : F.kind = 1 ∨ F.kind = 2 := by
  simp only [rightF, Bool.and_eq_true] at h
  have := h.2
  by_cases h1 : F.kind = 1
  · exact .inl h1
  · by_cases h2 : F.kind = 2
    · exact .inr h2
    · simp [h1, h2] at this
theorem rightF_hn {F : Fld} (h : rightF F = true) : F.hn ≤ 16 := by
  simp only [rightF, Bool.and_eq_true] at h
  have := h.2
  by_cases h1 : F.kind = 1
  · simp [h1, holdsB] at this
    exact this.1.2.2
  · by_cases h2 : F.kind = 2
    · simp [h2] at this
      omega
    · simp [h1, h2] at this
theorem preW_len (v : Int) (F : Fld) (h : F.name.length ≤ 8) : (preW v F).length ≤ 100 := by
  unfold preW
  have h1 := catN_len 2 (duo v F.kind)
  have h2 := numB_len F.name.length
  have h3 := numB_len F.epoch
  split <;> simp only [List.length_append, List.length_nil] <;> omega
set_option maxHeartbeats 4000000 in
theorem wencode_ok (v : Int) (F : Fld) (w : World) (hs : sayB v F = true) (hf : FldOk w F) :
    Calls Tryz.prog 47 #[.int .i64 v, .agg F.cells] w fun e w' => ∃ u, e = .returned (.tuple #[u, .int .i64 0]) ∧ OwnBy w' w.heap.size u (fldW v F) ∧ Below w.heap.size w w' := by
  have hR : rightF F = true := by simp only [sayB, Bool.and_eq_true] at hs; exact hs.1.1
  have hnm := name_len (rightF_name hR)
  have hhn := rightF_hn hR
  have HKD := Lib.hid (rightF_kind hR)
  have HOK := Lib.hid hf
  have C1 := Lib.hid (fun (w' : World) (h : FldOk w' F) => fieldRight_at hR h)
  have C2 := Lib.hid (fun (w' : World) (h : FldOk w' F) => saysW_at (v := v) hs h)
  clear hR hs hf
  go_enter Tryz.func47, Tryz.ntmps47
  obtain ⟨g, hg⟩ : ∃ g, w.heap.size = g := ⟨_, rfl⟩
  go_wp2_with fail
  refine (C1.out _ (HOK.out.below ((Below.refl _ _).alloc (Nat.le_refl _) _))).mono ?_
  rintro e w1 ⟨rfl, hb⟩
  have r1 : rowAt w1 g = some (F.cells, 58) := by rw [← hg]; exact rowKeep hb (rowAt_alloc_at _ _ _ _ rfl)
  have HB1 := Lib.hid (bthen (below_allocS (Below.refl _ _) _) hb)
  have HG := Lib.hid hg
  clear hb hg
  go_wp2_with fail
  refine (C2.out _ (HOK.out.below HB1.out)).mono ?_
  rintro e w2 ⟨rfl, hb⟩
  have r2 := rowKeep hb r1
  have HB2 := Lib.hid (bthen HB1.out hb)
  clear hb r1 HB1 C1 C2
  go_upto_region 5 with fail
  refine wp_region_held_drew (S := fun w' : World => rowAt w' g = some (F.cells, 58) ∧ Hid (Below w.heap.size w w')) (by kernel_rfl) ⟨r2, Lib.hid (HB2.out.drew)⟩ (fun hS => ?_)
  clear r2 HB2
  generalize HW7 : World.drew _ = W7 at *
  clear HW7
  refine held_take (i := 0) (by simp only [List.getElem?_toArray, List.getElem?_cons_succ, List.getElem?_cons_zero]; rfl) (by decide +kernel) (by decide +kernel) (by decide +kernel) (by exact fun _ _ _ _ h => h) hS (by rfl) ?_
  apply Exists.intro
  refine ⟨fun w' hSw => ?_, ?_⟩
  · go_simp
    with_reducible rfl
  (try simp only [act_put, act_put_none, List.set_cons_zero, List.set_cons_succ])
  refine held_take (i := 1) (by simp only [List.getElem?_toArray, List.getElem?_cons_succ, List.getElem?_cons_zero]; rfl) (by decide +kernel) (by decide +kernel) (by decide +kernel) (by exact fun _ _ _ _ h => h) hS (by rfl) ?_
  apply Exists.intro
  refine ⟨fun w' hSw => ?_, ?_⟩
  · go_simp
    with_reducible rfl
  (try simp only [act_put, act_put_none, List.set_cons_zero, List.set_cons_succ])
  refine held_take (i := 2) (by simp only [List.getElem?_toArray, List.getElem?_cons_succ, List.getElem?_cons_zero]; rfl) (by decide +kernel) (by decide +kernel) (by decide +kernel) (by exact fun _ _ _ _ h => h) hS (by rfl) ?_
  apply Exists.intro
  refine ⟨fun w' hSw => ?_, ?_⟩
  · obtain ⟨q_row, _⟩ := hSw
    have q1 : w'.cell? ⟨g, 1, none⟩ = some (.int .i64 F.kind) := by rw [cell_of_rowAt q_row]; exact F.get1
    go_simp
    with_reducible rfl
  (try simp only [act_put, act_put_none, List.set_cons_zero, List.set_cons_succ])
  refine held_take (i := 5) (by simp only [List.getElem?_toArray, List.getElem?_cons_succ, List.getElem?_cons_zero]; rfl) (by decide +kernel) (by decide +kernel) (by decide +kernel) (by exact fun _ _ _ _ h => h) hS (by rfl) ?_
  apply Exists.intro
  refine ⟨fun w' hSw => ?_, ?_⟩
  · go_simp
    with_reducible rfl
  (try simp only [act_put, act_put_none, List.set_cons_zero, List.set_cons_succ])
  refine held_take (i := 6) (by simp only [List.getElem?_toArray, List.getElem?_cons_succ, List.getElem?_cons_zero]; rfl) (by decide +kernel) (by decide +kernel) (by decide +kernel) (by exact fun _ _ _ _ h => h) hS (by rfl) ?_
  apply Exists.intro
  refine ⟨fun w' hSw => ?_, ?_⟩
  · obtain ⟨q_row, _⟩ := hSw
    have q1 : w'.cell? ⟨g, 0, none⟩ = some (.string (strT F.name)) := by rw [cell_of_rowAt q_row]; exact F.get0
    go_simp
    with_reducible rfl
  (try simp only [act_put, act_put_none, List.set_cons_zero, List.set_cons_succ])
  refine wpAnyH_ready (rs := [3]) (by decide +kernel) (by simp) ?_
  refine AllReadyH.cons (i := 3) (by simp only [List.getElem?_toArray, List.getElem?_cons_succ, List.getElem?_cons_zero]; rfl) (fun K hK => ?_) ?_
  · go_simp
    have HX : Below W7.heap.size W7 (W7.alloc (.cells #[.int .i64 v, .int .i64 F.kind] 3)) := (Below.refl _ _).alloc (Nat.le_refl _) _
    have HI := Lib.hid (ints_two W7 v F.kind)
    refine hK.out _ _ ⟨rowKeep HX hS.1, Lib.hid (bthen (Hid.out hS.2) HX)⟩ (fun hS2 => ?_)
    clear hS hK K
    have hS := hS2
    clear hS2
    clear HX
    (try simp only [act_put, act_put_none, List.set_cons_zero, List.set_cons_succ])
    have hS := And.intro (HI) hS
    refine held_more (S2 := fun w' : World => Hid (IntsIs w' (some ⟨W7.heap.size, 0, none⟩) 2 (duo v F.kind)) ∧ rowAt w' g = some (F.cells, 58) ∧ Hid (Below w.heap.size w w')) (fun _ h => h.2) ?_
    generalize W7.alloc _ = W8 at *
    refine wpAnyH_ready (rs := [4]) (by decide +kernel) (by simp) ?_
    refine AllReadyH.cons (i := 4) (by simp only [List.getElem?_toArray, List.getElem?_cons_succ, List.getElem?_cons_zero]; rfl) (fun K hK => ?_) ?_
    · go_simp
      go_at_call 66
      refine (wnum_any w.heap.size _ [] _ 2 2 (duo v F.kind) W8 (OwnBy.nil _ _) (Hid.out hS.2.2).size (Hid.out hS.1) (by decide) (by decide)).mono ?_
      rintro e w1 ⟨va, rfl, hown, HX⟩
      obtain ⟨A1, c1, rfl, i1, i2, _, _⟩ := hown.isBy
      rw [List.nil_append] at i1
      have HO := Lib.hid i1
      have HN := Lib.hid i2
      clear hown i1 i2
      go_simp
      refine hK.out _ _ ⟨Lib.hid ((Hid.out hS.1).below HX), rowKeep HX hS.2.1, Lib.hid (bthen (Hid.out hS.2.2) HX)⟩ (fun hS2 => ?_)
      clear hS hK K
      have hS := hS2
      clear hS2
      clear HX
      (try simp only [act_put, act_put_none, List.set_cons_zero, List.set_cons_succ])
      have hS := And.intro (HO) hS
      refine held_more (S2 := fun w' : World => Hid (IsBy w' A1 (catN 2 (duo v F.kind))) ∧ Hid (IntsIs w' (some ⟨W7.heap.size, 0, none⟩) 2 (duo v F.kind)) ∧ rowAt w' g = some (F.cells, 58) ∧ Hid (Below w.heap.size w w')) (fun _ h => h.2) ?_
      refine wpAnyH_ready (rs := [7]) (by decide +kernel) (by simp) ?_
      refine AllReadyH.cons (i := 7) (by simp only [List.getElem?_toArray, List.getElem?_cons_succ, List.getElem?_cons_zero]; rfl) (fun K hK => ?_) ?_
      · go_simp
        go_at_call 46
        refine (text_at A1 c1 (catN 2 (duo v F.kind)) F.name _ (Hid.out hS.1) HN.out (by have := catN_len 2 (duo v F.kind); omega) (by omega) rfl).mono ?_
        rintro e w2 ⟨vb, rfl, hown, HX⟩
        have HO2 := Lib.hid (hown.mono (Hid.out hS.2.2.2).size)
        clear hown
        go_simp
        refine hK.out _ _ ⟨Lib.hid ((Hid.out hS.1).below HX), Lib.hid ((Hid.out hS.2.1).below HX), rowKeep HX hS.2.2.1, Lib.hid (bthen (Hid.out hS.2.2.2) HX)⟩ (fun hS2 => ?_)
        clear hS hK K
        have hS := hS2
        clear hS2
        clear HX
        (try simp only [act_put, act_put_none, List.set_cons_zero, List.set_cons_succ])
        have hS := And.intro (HO2) hS
        refine held_more (S2 := fun w' : World => Hid (OwnBy w' w.heap.size vb (catN 2 (duo v F.kind) ++ (numB F.name.length ++ F.name))) ∧ Hid (IsBy w' A1 (catN 2 (duo v F.kind))) ∧ Hid (IntsIs w' (some ⟨W7.heap.size, 0, none⟩) 2 (duo v F.kind)) ∧ rowAt w' g = some (F.cells, 58) ∧ Hid (Below w.heap.size w w')) (fun _ h => h.2) ?_
        refine held_take (i := 8) (by simp only [List.getElem?_toArray, List.getElem?_cons_succ, List.getElem?_cons_zero]; rfl) (by decide +kernel) (by decide +kernel) (by decide +kernel) (by exact fun _ _ _ _ h => h) hS (by rfl) ?_
        apply Exists.intro
        refine ⟨fun w' hSw => ?_, ?_⟩
        · go_simp
          with_reducible rfl
        (try simp only [act_put, act_put_none, List.set_cons_zero, List.set_cons_succ])
        refine wpAnyH_done (by decide +kernel) ?_ _
        have hrow := hS.2.2.2.1
        have HF := hS.2.2.2.2
        have HT := hS.1
        clear hS HI HO HO2
        have HROW := Lib.hid hrow
        have n1 := rowAt_lt hrow
        have c2 : w2.cell? ⟨g, 2, none⟩ = some (.int .i64 F.epoch) := by rw [cell_of_rowAt hrow]; exact F.get2
        clear hrow
        have hpl : (catN 2 (duo v F.kind) ++ (numB F.name.length ++ F.name)).length ≤ 1000 := by
          have h1 := catN_len 2 (duo v F.kind)
          have h2 := numB_len F.name.length
          simp only [List.length_append]
          omega
        have HPL := Lib.hid hpl
        clear hpl
        obtain ⟨b3, hb3⟩ : ∃ b, (v == 3) = b := ⟨_, rfl⟩
        go_upto_if 29 with fail
        go_cut [6] from 30 to 35 (fun u wx => OwnBy wx w.heap.size u (preW v F) ∧ rowAt wx g = some (F.cells, 58) ∧ Below w.heap.size w wx)
        case first =>
          cases b3
          rotate_left
          · have h3 : v = 3 := by simpa using hb3
            have HP : Hid (preW v F = catN 2 (duo v F.kind) ++ (numB F.name.length ++ F.name) ++ catN 1 (fun _ => F.epoch)) := Lib.hid (by unfold preW; rw [if_pos h3, catN_one])
            clear h3
            go_wp2_with fail
            refine (wnum_any w.heap.size vb _ _ 1 1 (fun _ => F.epoch) _ (HT.out.alloc _) (by have := HF.out.size; simp; omega) (ints_one _ _) (by decide) (Nat.le_trans HPL.out (by decide))).mono ?_
            rintro e w3 ⟨u, rfl, hown, hb⟩
            have HO3 := Lib.hid hown
            have HR3 := Lib.hid (rowKeep hb (rowPast HROW.out))
            have HB3 := Lib.hid (bthen (below_allocS HF.out _) hb)
            clear hown hb
            go_wp2_with fail
            go_meet
            exact ⟨by rw [HP.out]; exact HO3.out, HR3.out, HB3.out⟩
          · have h3 : ¬ v = 3 := by simpa using hb3
            have HP : Hid (preW v F = catN 2 (duo v F.kind) ++ (numB F.name.length ++ F.name)) := Lib.hid (by unfold preW; rw [if_neg h3, List.append_nil])
            clear h3
            go_wp2_with fail
            go_meet
            exact ⟨by rw [HP.out]; exact HT.out, HROW.out, HF.out⟩
        case rest =>
          obtain ⟨hown, hrow, hb⟩ := hcut
          have hpw : (preW v F).length ≤ 100 := preW_len v F hnm
          clear HT HROW HF n1 c2 HPL HN
          have HT := Lib.hid hown
          have HROW := Lib.hid hrow
          have HF := Lib.hid hb
          have HPW := Lib.hid hpw
          have n1 := rowAt_lt hrow
          clear hown hb hpw
          rcases HKD.out with hk | hk
          · have c1 : wc.cell? ⟨g, 1, none⟩ = some (.int .i64 1) := by rw [cell_of_rowAt hrow, F.get1, hk]
            have HFW : Hid (fldW v F = preW v F ++ cntW v F) := Lib.hid (by unfold fldW; rw [if_neg (by omega)])
            have d0 : wc.cell? ⟨g, 3, none⟩ = some (.int .i64 (F.cnt 0)) := by rw [cell_of_rowAt hrow]; exact F.getCnt 0 (by decide)
            have d1 : wc.cell? ⟨g, 4, none⟩ = some (.int .i64 (F.cnt 1)) := by rw [cell_of_rowAt hrow]; exact F.getCnt 1 (by decide)
            have d2 : wc.cell? ⟨g, 5, none⟩ = some (.int .i64 (F.cnt 2)) := by rw [cell_of_rowAt hrow]; exact F.getCnt 2 (by decide)
            clear hk hrow
            go_wp2_with fail
            refine (wnum_any w.heap.size _ _ _ 3 3 F.cnt _ (HT.out.alloc _) (by have := HF.out.size; simp; omega) (ints_three _ _) (by decide) (Nat.le_trans HPW.out (by decide))).mono ?_
            rintro e w3 ⟨u, rfl, hown, hb⟩
            have HO3 := Lib.hid hown
            have HR3 := Lib.hid (rowKeep hb (rowPast HROW.out))
            have HB3 := Lib.hid (bthen (below_allocS HF.out _) hb)
            clear hown hb c1 d0 d1 d2
            go_wp2_with fail
            refine (vectors_any g 6 w3).mono ?_
            rintro e w4 ⟨x1, rfl, ho1, hb⟩
            have HV1 := Lib.hid ho1
            have HB4 := Lib.hid hb
            clear ho1 hb
            go_wp2_with fail
            refine (vectors_any g 294 w4).mono ?_
            rintro e w5 ⟨x2, rfl, ho2, hb⟩
            have hv1 := own_below HV1.out hb
            obtain ⟨a1, k1, rfl, _, _, _, _, _⟩ := own_open hv1 (by decide)
            obtain ⟨a2, k2, rfl, _, _, _, _, _⟩ := own_open ho2 (by decide)
            have HV1 := Lib.hid hv1
            have HV2 := Lib.hid ho2
            have HB5 := Lib.hid (bthen HB4.out hb)
            clear ho2 hb hv1 HB4
            go_wp2_with fail
            refine (concatV_any _ _ _ _ _ _ _ _ _ (own_alloc HV1.out _) (own_alloc HV2.out _) (by rw [cell_of_rowAt (rowAt_alloc_at _ _ _ _ rfl)]; rfl) (by rw [cell_of_rowAt (rowAt_alloc_at _ _ _ _ rfl)]; rfl) (vecP_one g 6 18) (vecP_one g 294 18)).mono ?_
            rintro e w6 ⟨x3, rfl, ho3, hb⟩
            rw [show vecP g 6 18 ++ vecP g 294 18 = vecP g 6 36 from (vecP_add g 6 18 18).symm] at ho3
            obtain ⟨a3, k3, rfl, _, _, _, _, hcl⟩ := own_open ho3 (by decide)
            have hb6 := bthen (below_allocS HB5.out _) hb
            have HB6 := Lib.hid (bthen HB3.out hb6)
            have HR6 := Lib.hid (rowKeep hb6 HR3.out)
            have HO6 := Lib.hid (HO3.out.below hb6)
            have HCL := Lib.hid hcl
            clear ho3 hb hcl hb6 HB5 HB3 HR3 HO3 HV1 HV2
            go_wp2_with fail
            go_loopw [6, 74] (fun u i w' => ∃ k : Nat, k ≤ 36 ∧ i = .int .i64 k ∧ OwnBy w' w.heap.size u (preW v F ++ catN (3 + 16 * k) F.cnt) ∧ Below w6.heap.size w6 w') (fun _ i _ => 36 - (intOf i).toNat)
            case atStart => exact ⟨0, Nat.zero_le _, rfl, HO6.out, Below.refl _ _⟩
            case round =>
              rename World => wr
              obtain ⟨k, hk, rfl, hown, hb⟩ := hrel
              clear HO6
              have HO := Lib.hid hown
              have HBR := Lib.hid hb
              have hrr := rowKeep hb HR6.out
              have n2 := rowAt_lt hrr
              have hlen : (preW v F ++ catN (3 + 16 * k) F.cnt).length ≤ 70368000000000 := by
                have := catN_len (3 + 16 * k) F.cnt
                have := HPW.out
                rw [List.length_append]; omega
              clear hown
              by_cases hlt : k < 36
              · obtain ⟨gb, rfl, hc⟩ := HCL.out k _ (vecP_get g 6 36 k hlt)
                have hc2 : wr.cell? ⟨gb, k, none⟩ = some (.pointer (some ⟨g, 6 + 16 * k, none⟩)) := (hb.cell (World.block_lt_of_cell? _ _ hc)).trans hc
                have HI : Hid (IntsIs wr (some ⟨g, 6 + 16 * k, none⟩) 16 (fun i => F.cnt (3 + 16 * k + i))) := Lib.hid (fun i hi => ⟨g, 6 + 16 * k, rfl, by rw [cell_of_rowAt hrr, show 6 + 16 * k + i = 3 + (3 + 16 * k + i) by omega]; exact F.getCnt _ (by omega)⟩)
                have HS : Hid (catN (3 + 16 * (k + 1)) F.cnt = catN (3 + 16 * k) F.cnt ++ catN 16 (fun i => F.cnt (3 + 16 * k + i))) := Lib.hid (by rw [show 3 + 16 * (k + 1) = 3 + 16 * k + 16 by omega, catN_add])
                have HLN := Lib.hid hlen
                clear hb hc hlen hrr HCL
                go_wp2_with fail
                refine (wnum_any w.heap.size _ _ _ _ 16 _ _ HO.out (Nat.le_trans HB6.out.size HBR.out.size) HI.out (by decide) HLN.out).mono ?_
                rintro e w7 ⟨u7, rfl, hown, hb⟩
                have HO7 := Lib.hid hown
                have HB7 := Lib.hid (bthen HBR.out hb)
                clear hown hb
                go_wp2_with fail
                go_roundw
                case rel => exact ⟨k + 1, by omega, by go_num, by rw [HS.out, ← List.append_assoc]; exact HO7.out, HB7.out⟩
                case measure => simp [intOf]; omega
              · obtain rfl : k = 36 := by omega
                have HBR := Lib.hid (bthen HB6.out hb)
                have c5 : wr.cell? ⟨g, 586, none⟩ = some (.slice F.hA F.hn F.hc) := by rw [cell_of_rowAt hrr]; exact F.get586
                have HRR := Lib.hid hrr
                have HLN := Lib.hid hlen
                clear hb hrr hlen HB6 HR6 HCL
                by_cases h1 : v = 1
                · have h1b : (v == 1) = true := by simp [h1]
                  have HE : Hid (fldW v F = preW v F ++ catN (3 + 16 * 36) F.cnt) := Lib.hid (by rw [HFW.out]; unfold cntW; rw [if_pos h1, List.append_nil])
                  clear h1
                  go_wp2_with fail
                  go_ret2
                  exact ⟨_, rfl, by rw [HE.out]; exact HO.out, HBR.out⟩
                · have h1b : (v == 1) = false := by simp [h1]
                  have HE : Hid (fldW v F = preW v F ++ catN (3 + 16 * 36) F.cnt ++ catN 1 (fun _ => (F.hn : Int)) ++ catN (5 * F.hn) F.hs) := Lib.hid (by rw [HFW.out]; unfold cntW; rw [if_neg h1]; simp only [List.append_assoc]; rw [catN_one])
                  clear h1
                  go_wp2_with fail
                  refine (wnum_any w.heap.size _ _ _ 1 1 (fun _ => (F.hn : Int)) _ (HO.out.alloc _) (by have := HBR.out.size; simp; omega) (ints_one _ _) (by decide) HLN.out).mono ?_
                  rintro e w7 ⟨u7, rfl, hown, hb⟩
                  have HO7 := Lib.hid hown
                  have hrr := rowKeep hb (rowPast HRR.out)
                  have HB7 := Lib.hid (bthen (below_allocS HBR.out _) hb)
                  have c6 : w7.cell? ⟨g, 586, none⟩ = some (.slice F.hA F.hn F.hc) := by rw [cell_of_rowAt hrr]; exact F.get586
                  have HI7 := Lib.hid ((HOK.out.below HB7.out).holds)
                  clear hown hb hrr HRR c5 HO HBR
                  go_wp2_with fail
                  go_loopw [6, 96] (fun u i w' => ∃ k : Nat, k ≤ F.hn ∧ i = .int .i64 k ∧ OwnBy w' w.heap.size u (preW v F ++ catN (3 + 16 * 36) F.cnt ++ catN 1 (fun _ => (F.hn : Int)) ++ catN (5 * k) F.hs) ∧ Below w7.heap.size w7 w') (fun _ i _ => F.hn - (intOf i).toNat)
                  case atStart => exact ⟨0, Nat.zero_le _, rfl, by rw [catN_zero, List.append_nil]; exact HO7.out, Below.refl _ _⟩
                  case round =>
                    rename_i wr
                    obtain ⟨k, hk, rfl, hown, hb⟩ := hrel
                    clear HO7 c6
                    have HO := Lib.hid hown
                    have HBR := Lib.hid hb
                    have hlen : (preW v F ++ catN (3 + 16 * 36) F.cnt ++ catN 1 (fun _ => (F.hn : Int)) ++ catN (5 * k) F.hs).length ≤ 70368000000000 := by
                      have := catN_len (3 + 16 * 36) F.cnt
                      have := catN_len 1 (fun _ => (F.hn : Int))
                      have := catN_len (5 * k) F.hs
                      have := HPW.out
                      simp only [List.length_append]; omega
                    have HLN2 := Lib.hid hlen
                    clear hown hlen
                    by_cases hlt : k < F.hn
                    · obtain ⟨b, o, hA, hl⟩ := (HI7.out.below hb).load hlt
                      have hl1 := hl wr (Below.refl _ _)
                      have HS : Hid (catN (5 * (k + 1)) F.hs = catN (5 * k) F.hs ++ catN 5 (sub (5 * k) F.hs)) := Lib.hid (by rw [show 5 * (k + 1) = 5 * k + 5 by omega, catN_add]; rfl)
                      rw [hA]
                      clear hl hb hA
                      go_wp2_with fail
                      refine (wnum_any w.heap.size _ _ _ _ 5 (sub (5 * k) F.hs) _ ((HO.out.alloc _).alloc _) (by have := HB7.out.size; have := HBR.out.size; simp; omega) (ints_five _ _ (by simp)) (by decide) HLN2.out).mono ?_
                      rintro e w8 ⟨u8, rfl, hown, hb⟩
                      have HO8 := Lib.hid hown
                      have HB8 := Lib.hid (bthen (below_allocS (below_allocS HBR.out _) _) hb)
                      clear hown hb
                      go_wp2_with fail
                      go_roundw
                      case rel => exact ⟨k + 1, by omega, by go_num, by rw [HS.out, ← List.append_assoc]; exact HO8.out, HB8.out⟩
                      case measure => simp [intOf]; omega
                    · obtain rfl : k = F.hn := by omega
                      have HB8 := Lib.hid (bthen HB7.out hb)
                      clear hb
                      go_wp2_with fail
                      go_ret2
                      exact ⟨_, rfl, by rw [HE.out]; exact HO.out, HB8.out⟩
          · have c1 : wc.cell? ⟨g, 1, none⟩ = some (.int .i64 2) := by rw [cell_of_rowAt hrow, F.get1, hk]
            have HFW : Hid (fldW v F = preW v F ++ catN 4 F.lock) := Lib.hid (by unfold fldW; rw [if_pos hk])
            have d0 : wc.cell? ⟨g, 582, none⟩ = some (.int .i64 (F.lock 0)) := by rw [cell_of_rowAt hrow]; exact F.getLock 0 (by decide)
            have d1 : wc.cell? ⟨g, 583, none⟩ = some (.int .i64 (F.lock 1)) := by rw [cell_of_rowAt hrow]; exact F.getLock 1 (by decide)
            have d2 : wc.cell? ⟨g, 584, none⟩ = some (.int .i64 (F.lock 2)) := by rw [cell_of_rowAt hrow]; exact F.getLock 2 (by decide)
            have d3 : wc.cell? ⟨g, 585, none⟩ = some (.int .i64 (F.lock 3)) := by rw [cell_of_rowAt hrow]; exact F.getLock 3 (by decide)
            clear hk hrow
            go_wp2_with fail
            refine (wnum_any w.heap.size _ _ _ 4 4 F.lock _ (HT.out.alloc _) (by have := HF.out.size; simp; omega) (ints_four _ _) (by decide) (Nat.le_trans HPW.out (by decide))).mono ?_
            rintro e w3 ⟨u, rfl, hown, hb⟩
            have HO3 := Lib.hid hown
            have HB3 := Lib.hid (bthen (below_allocS HF.out _) hb)
            clear hown hb
            go_wp2_with fail
            go_ret2
            exact ⟨_, rfl, by rw [HFW.out]; exact HO3.out, HB3.out⟩
      exact AllReadyH.nil
    exact AllReadyH.nil
  exact AllReadyH.nil
end Go.Proofs.YtinhaipnmmgplaaGreat
