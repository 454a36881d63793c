/-
  Layer 10 (wire): the bytes of a field are read.
-/
import Derived.Test.YtinhaipnmmgplaaGreatZGL
import Derived.Test.YtinhaipnmmgplaaGreatZGJ
import Derived.Test.YtinhaipnmmgplaaGreatZMEnc
import Derived.Deep.DeepCutAuto
namespace Go.Proofs.YtinhaipnmmgplaaGreat
set_option maxRecDepth 20000
open Go.RowKit
set_option linter.unusedSimpArgs false
set_option linter.unusedVariables false
attribute [local go_sem] rowCells rowAt_drewN get_ints getE_ints set_ints size_ints rowAt_alloc rowAt_drew setRow_alloc setRow_drewN setRow_drew setCell_alloc setCell_drewN splice_upd splice_put splice_all load_vec_cut load_vecs_cut load_rights_cut load_counter store_vec store_rights store_counter eql_vec neq_vec index_vec eql_rights neq_rights eql_counter index_vecs cut_ints sub_zero
attribute [local go_sem ↓] xload_vec xstore_vec xalloc_vec xeql_vec xneq_vec xindex_vec xbuild_vec0 xload_rights xstore_rights xalloc_rights xeql_rights xneq_rights xbuild_rights0 xload_vecs xindex_vecs xload_counter xstore_counter xalloc_counter xbuild_counter0 xeql_counter xbuild_counter3
attribute [local go_sem] rowAt_setRow rowAt_setCell load_vec_cut_later load_rights_later load_counter_later Later.cell Later.frozen build3_ints
attribute [local go_sem ↓] xload_field xstore_field xalloc_field xload_lock
attribute [local go_sem] load_field load_field_later store_field load_counter_cut load_lock_cut load_lock_later Fld.size Fld.get0 Fld.get1 Fld.get2 Fld.get586 Fld.getE0 Fld.getE1 Fld.getE2 Fld.getE586 Fld.cut_cnt Fld.cut_lock Fld.cut_all Fld.splice_all strT_size


attribute [local go_sem ↓] xload_hold xstore_hold xalloc_hold
attribute [local go_sem] load_hold load_hold_later store_hold build_hold
def epW (v : Int) (F : Fld) : List UInt8 := if v = 3 then catN 1 (fun _ => F.epoch) else []
def endW (v : Int) (F : Fld) : List UInt8 := if F.kind = 2 then catN 4 F.lock else cntW v F
theorem fldW_split (v : Int) (F : Fld) : fldW v F = numB v ++ (catN 1 (fun _ => F.kind) ++ (numB F.name.length ++ (F.name ++ (epW v F ++ endW v F)))) := by
  unfold fldW preW endW epW
  rw [catN_succ 1, catN_one, catN_one]
  rw [show catN 1 (duo v F.kind) = numB v by rw [catN_succ, catN_zero, List.nil_append]; rfl, show duo v F.kind 1 = F.kind from rfl]
  split <;> simp only [List.append_assoc, catN_one]
theorem isB_small {n : Int} (h0 : 0 ≤ n) (h1 : n ≤ 1000000) : isB n = true := isB_iff.2 (by omega)
theorem say_ver {v : Int} {F : Fld} (h : sayB v F = true) : 1 ≤ v ∧ v ≤ 3 := by
  simp only [sayB, isV, Bool.and_eq_true, decide_eq_true_eq] at h
  exact h.1.2
theorem say_epoch {v : Int} {F : Fld} (h : sayB v F = true) (h3 : ¬ v = 3) : F.epoch = 0 := by
  have hv := say_ver h
  simp only [sayB, Bool.and_eq_true] at h
  have := h.2
  unfold saysB at this
  by_cases h1 : v = 1
  · simp [h1] at this; exact this.1
  · have h2 : v = 2 := by omega
    simp [h2] at this; exact this
theorem say_hn {v : Int} {F : Fld} (h : sayB v F = true) (h1 : v = 1) : F.hn = 0 := by
  simp only [sayB, Bool.and_eq_true] at h
  have := h.2
  unfold saysB at this
  simp [h1] at this; exact this.2
theorem right_epoch {F : Fld} (h : rightF F = true) : isB F.epoch = true := by
  simp only [rightF, Bool.and_eq_true] at h
  exact h.1.2
theorem right_lock {F : Fld} (h : rightF F = true) (hk : F.kind = 2) : ∀ i, i < 4 → isB (F.lock i) = true := by
  simp only [rightF, Bool.and_eq_true] at h
  have h2 := h.2
  rw [if_neg (by omega), if_pos hk] at h2
  simp only [lockB, cntB, inK, Bool.and_eq_true, decide_eq_true_eq] at h2
  intro i hi
  rcases lt_four hi with rfl | rfl | rfl | rfl
  · exact h2.1.1.1.1.1.2
  · exact h2.1.1.1.1.2.2
  · exact isB_small h2.1.1.1.2.1 (by omega)
  · exact h2.1.1.2
theorem right_cntR {F : Fld} (h : rightF F = true) (hk : F.kind = 1) : rightC F.cnt = true ∧ holdsB F.hn F.hs = true := by
  simp only [rightF, Bool.and_eq_true] at h
  have h2 := h.2
  rw [if_pos hk] at h2
  simp only [Bool.and_eq_true] at h2
  exact ⟨h2.1.1, h2.1.2⟩
theorem right_holds {F : Fld} (h : rightF F = true) (hk : F.kind = 1) : ∀ i, i < 5 * F.hn → isB (F.hs i) = true := by
  have h2 := (right_cntR h hk).2
  simp only [holdsB, Bool.and_eq_true, List.all_eq_true, List.mem_range, decide_eq_true_eq] at h2
  intro i hi
  have h3 := h2.1 (i / 5) (by omega)
  have h4 : holdB (sub (5 * (i / 5)) F.hs) = true := by
    revert h3
    cases i / 5 with
    | zero => intro h3; rw [show sub (5 * 0) F.hs = F.hs by funext q; simp [sub]]; exact h3
    | succ k => intro h3; simp only [holdAt, Bool.and_eq_true] at h3; exact h3.1
  have h5 : F.hs i = sub (5 * (i / 5)) F.hs (i % 5) := by unfold sub; rw [Nat.div_add_mod]
  rw [h5]
  have hm := Nat.mod_lt i (show 0 < 5 by decide)
  generalize sub (5 * (i / 5)) F.hs = g at *
  simp only [holdB, cntB, Bool.and_eq_true, decide_eq_true_eq] at h4
  rcases lt_five hm with e | e | e | e | e <;> rw [e]
  · exact isB_small h4.1.1.1.1.1.1.1 (by omega)
  · exact h4.1.1.1.1.2
  · exact h4.1.1.1.2.2
  · exact h4.1.1.2.2
  · exact isB_small (by omega) (by omega)
def hwW (v : Int) (F : Fld) : List UInt8 := if v = 1 then [] else numB F.hn ++ catN (5 * F.hn) F.hs
theorem vec_isB {f : Nat → Int} (h : rightV f = true) {i : Nat} (hi : i < 16) : isB (f i) = true := by
  have := rightV_iff.1 h i hi
  exact isB_iff.2 (by omega)
theorem rights_isB {r : Nat → Int} (h : rightR r = true) : ∀ i, i < 288 → isB (r i) = true := by
  intro i hi
  simp only [rightR, rightTo, rowB, Bool.and_eq_true, List.all_eq_true, List.mem_range] at h
  by_cases h1 : i < 16
  · have := vec_isB h.1.1 h1
    simpa [sub] using this
  · by_cases h2 : i < 32
    · have := vec_isB h.1.2 (i := i - 16) (by omega)
      rwa [show sub 16 r (i - 16) = r i by unfold sub; rw [show 16 + (i - 16) = i by omega]] at this
    · have h3 := (h.2 ((i - 32) / 16) (by omega)).1
      have := vec_isB h3 (i := (i - 32) % 16) (Nat.mod_lt _ (by decide))
      rwa [show sub (32 + (i - 32) / 16 * 16) r ((i - 32) % 16) = r i by unfold sub; rw [show 32 + (i - 32) / 16 * 16 + (i - 32) % 16 = i by omega]] at this
theorem right_cnt3 {F : Fld} (h : rightF F = true) (hk : F.kind = 1) : ∀ i, i < 579 → isB (F.cnt i) = true := by
  have h2 := (right_cntR h hk).1
  simp only [rightC, Bool.and_eq_true] at h2
  obtain ⟨⟨⟨⟨⟨⟨⟨⟨a0, a1⟩, a2⟩, _⟩, _⟩, a3⟩, a4⟩, _⟩, _⟩ := h2
  intro i hi
  by_cases h3 : i < 3
  · rcases lt_three h3 with rfl | rfl | rfl <;> assumption
  · by_cases h4 : i < 291
    · have := rights_isB a3 (i - 3) (by omega)
      rwa [show sub 3 F.cnt (i - 3) = F.cnt i by unfold sub; rw [show 3 + (i - 3) = i by omega]] at this
    · have := rights_isB a4 (i - 291) (by omega)
      rwa [show sub 291 F.cnt (i - 291) = F.cnt i by unfold sub; rw [show 291 + (i - 291) = i by omega]] at this
set_option maxHeartbeats 4000000 in
theorem wdecode_ok (v : Int) (F : Fld) (A : Option Addr) (c : Nat) (w : World) (hs : sayB v F = true) (hI : IsBy w A (fldW v F)) (hN : A = none → c = 0) :
    Calls Tryz.prog 52 #[.slice A (fldW v F).length c] w fun e w' => ∃ A' c', e = .returned (.tuple #[.int .i64 v, .agg ({ F with hA := A', hc := c' } : Fld).cells, .int .i64 0]) ∧ FldOk w' { F with hA := A', hc := c' } ∧ HT w' { F with hA := A', hc := c' } ∧ (∀ x, A' = some x → w.heap.size ≤ x.block) ∧ Below w.heap.size w w' := by
  have hR := say_right hs
  have hlen := fldW_len (v := v) hR
  have HS := Lib.hid hs
  have HR := Lib.hid hR
  have HI := Lib.hid hI
  clear hs hR hI
  go_enter Tryz.func52, Tryz.ntmps52
  go_wp2_with fail
  refine (new_len (HI.out.alloc _) hN (Nat.le_trans hlen (by decide)) rfl).mono ?_
  rintro e w1 ⟨p, rfl, hr, hp, hb⟩
  have hp0 : w.heap.size < p := by have := hp; simp at this; omega
  have hp1 := hr.lt
  have hd : DS w (w1.alloc (.cells fld0.cells 58)) p w1.heap.size (fldW v F) (partF [] 0 0 F.cnt F.lock 0 0 none 0 0 F.hs) :=
    ⟨hr.below (B := w1.heap.size) ((Below.refl _ _).alloc (Nat.le_refl _) _) hp1, by rw [← fld0_part]; exact rowAt_alloc_at _ _ _ _ rfl, rowPast (rowKeep hb (rowAt_alloc_at _ _ _ _ rfl)), below_allocS (bthen (below_allocS (Below.refl _ _) _) hb) _, hp0, hp1, Nat.le_trans hlen (by decide)⟩
  rw [fldW_split] at hd
  have HD := Lib.hid hd
  clear hr hp hb hd
  go_wp2_with fail
  generalize hW : w1.alloc (.cells fld0.cells 58) = W at *
  clear hW
  generalize w1.heap.size = fb at *
  refine (HD.out.num (isB_small (by have := say_ver HS.out; omega) (by have := say_ver HS.out; omega))).mono ?_
  rintro e w2 ⟨rfl, hd⟩
  have HD := Lib.hid hd
  have hsv := say_ver HS.out
  have hv1 : isV v = true := by simp [isV, hsv.1, hsv.2]
  have HV1 := Lib.hid hv1
  clear hd hv1 hsv
  go_wp2_with (go_at_call 53; refine (HD.out.err).mono ?_; rintro e w' ⟨rfl, rfl⟩)
  refine (wireIs_at HV1.out _).mono ?_
  rintro e w3 ⟨rfl, hb⟩
  have HD := Lib.hid (HD.out.below hb)
  clear hb
  go_wp2_with fail
  refine (HD.out.read (G' := partF [] F.kind 0 F.cnt F.lock 0 0 none 0 0 F.hs) (q := fun _ => 1) ?c1 ?c2 (fun _ _ => by decide) (part_kind _ _ _ _ _ _ _ _ _ _ _ _) rfl (by decide)).mono ?_
  case c1 => intro _ _; rcases rightF_kind HR.out with h | h <;> rw [h] <;> decide
  case c2 => intro i hi; obtain rfl : i = 0 := by omega
             rfl
  rintro e w4 ⟨rfl, hd, _⟩
  have HD := Lib.hid hd
  have hnl := name_len (rightF_name HR.out)
  clear hd
  go_wp2_with fail
  refine (HD.out.text (isB_small (by omega) (by omega)) (by omega)).mono ?_
  rintro e w5 ⟨rfl, hd⟩
  have z0 : w5.cell? ⟨fb, 0, none⟩ = some (.string (strT [])) := by rw [cell_of_rowAt hd.row]; exact Fld.get0 _
  have z1 := frozen_of_rowAt hd.row 0
  have HD := Lib.hid (hd.set (part_name [] F.kind 0 F.cnt F.lock 0 0 none 0 0 F.hs F.name))
  clear hd
  obtain ⟨b3, hb3⟩ : ∃ b, (v == 3) = b := ⟨_, rfl⟩
  go_upto_if 35 with fail
  generalize w5.setCell ⟨fb, 0, none⟩ (.string (strT F.name)) = w6 at *
  clear z0 z1
  go_cut [] (fun wx => DS w wx p fb (endW v F) (partF F.name F.kind F.epoch F.cnt F.lock 0 0 none 0 0 F.hs))
  case first =>
    cases b3
    · have h3 : ¬ v = 3 := by simpa using hb3
      have hd := HD.out
      rw [epW, if_neg h3, List.nil_append, ← say_epoch HS.out h3] at hd
      have HD := Lib.hid hd
      clear hd h3
      go_wp2_with fail
      go_meet
      exact HD.out
    · have h3 : v = 3 := by simpa using hb3
      have hd := HD.out
      rw [epW, if_pos h3] at hd
      have HD := Lib.hid hd
      clear hd h3
      go_wp2_with fail
      refine (HD.out.read (G' := partF F.name F.kind F.epoch F.cnt F.lock 0 0 none 0 0 F.hs) (q := fun _ => 2) (fun _ _ => right_epoch HR.out) ?c2 (fun _ _ => by decide) (part_epoch _ _ _ _ _ _ _ _ _ _ _ _) rfl (by decide)).mono ?_
      case c2 => intro i hi; obtain rfl : i = 0 := by omega
                 rfl
      rintro e w7 ⟨rfl, hd, _⟩
      have HD := Lib.hid hd
      clear hd
      go_wp2_with fail
      go_meet
      exact HD.out
  case rest =>
    have HD := Lib.hid hcut
    clear hcut
    rcases rightF_kind HR.out with hk | hk
    · have hd := HD.out
      rw [hk, endW, if_neg (by omega), show cntW v F = catN 579 F.cnt ++ hwW v F from rfl, cnt_split, List.append_assoc] at hd
      have c1 : wc.cell? ⟨fb, 1, none⟩ = some (.int .i64 1) := by rw [cell_of_rowAt hd.row]; exact Fld.get1 _
      have HD := Lib.hid hd
      have HK := Lib.hid hk
      have HC := Lib.hid (right_cnt3 HR.out hk)
      clear hd hk
      go_upto_region 15 with fail
      clear c1
      refine wp_region_held_drew (S := fun _ : World => True) (by kernel_rfl) trivial (fun hS => ?_)
      have hdd := HD.out.below (Below.refl _ _).drew
      clear HD
      generalize HW7 : World.drew _ = W15 at *
      clear HW7
      have HD := Lib.hid hdd
      clear hdd
      refine held_take (i := 0) (by simp only [List.getElem?_toArray, List.getElem?_cons_succ, List.getElem?_cons_zero]; rfl) (by decide +kernel) (by decide +kernel) (by decide +kernel) (by exact fun _ _ _ _ h => h) hS (by rfl) ?_
      apply Exists.intro
      refine ⟨fun w' hSw => ?_, ?_⟩
      · go_simp
        with_reducible rfl
      (try simp only [act_put, act_put_none, List.set_cons_zero, List.set_cons_succ])
      refine held_take (i := 1) (by simp only [List.getElem?_toArray, List.getElem?_cons_succ, List.getElem?_cons_zero]; rfl) (by decide +kernel) (by decide +kernel) (by decide +kernel) (by exact fun _ _ _ _ h => h) hS (by rfl) ?_
      apply Exists.intro
      refine ⟨fun w' hSw => ?_, ?_⟩
      · go_simp
        with_reducible rfl
      (try simp only [act_put, act_put_none, List.set_cons_zero, List.set_cons_succ])
      refine held_take (i := 2) (by simp only [List.getElem?_toArray, List.getElem?_cons_succ, List.getElem?_cons_zero]; rfl) (by decide +kernel) (by decide +kernel) (by decide +kernel) (by exact fun _ _ _ _ h => h) hS (by rfl) ?_
      apply Exists.intro
      refine ⟨fun w' hSw => ?_, ?_⟩
      · go_simp
        with_reducible rfl
      (try simp only [act_put, act_put_none, List.set_cons_zero, List.set_cons_succ])
      refine held_take (i := 3) (by simp only [List.getElem?_toArray, List.getElem?_cons_succ, List.getElem?_cons_zero]; rfl) (by decide +kernel) (by decide +kernel) (by decide +kernel) (by exact fun _ _ _ _ h => h) hS (by rfl) ?_
      apply Exists.intro
      refine ⟨fun w' hSw => ?_, ?_⟩
      · go_simp
        with_reducible rfl
      (try simp only [act_put, act_put_none, List.set_cons_zero, List.set_cons_succ])
      refine held_take (i := 4) (by simp only [List.getElem?_toArray, List.getElem?_cons_succ, List.getElem?_cons_zero]; rfl) (by decide +kernel) (by decide +kernel) (by decide +kernel) (by exact fun _ _ _ _ h => h) hS (by rfl) ?_
      apply Exists.intro
      refine ⟨fun w' hSw => ?_, ?_⟩
      · go_simp
        with_reducible rfl
      (try simp only [act_put, act_put_none, List.set_cons_zero, List.set_cons_succ])
      refine held_take (i := 5) (by simp only [List.getElem?_toArray, List.getElem?_cons_succ, List.getElem?_cons_zero]; rfl) (by decide +kernel) (by decide +kernel) (by decide +kernel) (by exact fun _ _ _ _ h => h) hS (by rfl) ?_
      apply Exists.intro
      refine ⟨fun w' hSw => ?_, ?_⟩
      · go_simp
        with_reducible rfl
      (try simp only [act_put, act_put_none, List.set_cons_zero, List.set_cons_succ])
      refine held_take (i := 6) (by simp only [List.getElem?_toArray, List.getElem?_cons_succ, List.getElem?_cons_zero]; rfl) (by decide +kernel) (by decide +kernel) (by decide +kernel) (by exact fun _ _ _ _ h => h) hS (by rfl) ?_
      apply Exists.intro
      refine ⟨fun w' hSw => ?_, ?_⟩
      · go_simp
        with_reducible rfl
      (try simp only [act_put, act_put_none, List.set_cons_zero, List.set_cons_succ])
      refine held_take (i := 7) (by simp only [List.getElem?_toArray, List.getElem?_cons_succ, List.getElem?_cons_zero]; rfl) (by decide +kernel) (by decide +kernel) (by decide +kernel) (by exact fun _ _ _ _ h => h) hS (by rfl) ?_
      apply Exists.intro
      refine ⟨fun w' hSw => ?_, ?_⟩
      · go_simp
        with_reducible rfl
      (try simp only [act_put, act_put_none, List.set_cons_zero, List.set_cons_succ])
      refine held_take (i := 8) (by simp only [List.getElem?_toArray, List.getElem?_cons_succ, List.getElem?_cons_zero]; rfl) (by decide +kernel) (by decide +kernel) (by decide +kernel) (by exact fun _ _ _ _ h => h) hS (by rfl) ?_
      apply Exists.intro
      refine ⟨fun w' hSw => ?_, ?_⟩
      · go_simp
        with_reducible rfl
      (try simp only [act_put, act_put_none, List.set_cons_zero, List.set_cons_succ])
      refine held_take (i := 9) (by simp only [List.getElem?_toArray, List.getElem?_cons_succ, List.getElem?_cons_zero]; rfl) (by decide +kernel) (by decide +kernel) (by decide +kernel) (by exact fun _ _ _ _ h => h) hS (by rfl) ?_
      apply Exists.intro
      refine ⟨fun w' hSw => ?_, ?_⟩
      · go_simp
        with_reducible rfl
      (try simp only [act_put, act_put_none, List.set_cons_zero, List.set_cons_succ])
      refine wpAnyH_ready (rs := [10]) (by decide +kernel) (by simp) ?_
      refine AllReadyH.cons (i := 10) (by simp only [List.getElem?_toArray, List.getElem?_cons_succ, List.getElem?_cons_zero]; rfl) (fun K hK => ?_) ?_
      · go_simp
        refine hK.out _ _ trivial (fun _ => ?_)
        clear hK K
        (try simp only [act_put, act_put_none, List.set_cons_zero, List.set_cons_succ])
        refine wpAnyH_ready (rs := [11]) (by decide +kernel) (by simp) ?_
        refine AllReadyH.cons (i := 11) (by simp only [List.getElem?_toArray, List.getElem?_cons_succ, List.getElem?_cons_zero]; rfl) (fun K hK => ?_) ?_
        · go_simp
          go_at_call 73
          refine (HD.out.read (G' := partF F.name 1 F.epoch F.cnt F.lock 3 0 none 0 0 F.hs) (q := fun i => 3 + 0 + i) (fun i hi => HC.out _ (by omega)) ?c2 (fun i hi => by omega) (part_cnt _ _ _ _ _ 0 _ _ _ _ _ 3 (by decide)) rfl (by decide)).mono ?_
          case c2 => intro i hi; rcases lt_three hi with rfl | rfl | rfl <;> rfl
          rintro e w8 ⟨rfl, hd, _⟩
          have HD := Lib.hid hd
          clear hd
          go_simp
          refine hK.out _ _ trivial (fun _ => ?_)
          clear hK K
          (try simp only [act_put, act_put_none, List.set_cons_zero, List.set_cons_succ])
          refine wpAnyH_done (by decide +kernel) ?_ _
          go_upto_region 16 with fail
          refine wp_region_held_drew (S := fun _ : World => True) (by kernel_rfl) trivial (fun hS => ?_)
          have hdd := HD.out.below (Below.refl _ _).drew
          clear HD
          generalize HW7 : World.drew _ = W16 at *
          clear HW7
          have HD := Lib.hid hdd
          clear hdd
          refine held_take (i := 0) (by simp only [List.getElem?_toArray, List.getElem?_cons_succ, List.getElem?_cons_zero]; rfl) (by decide +kernel) (by decide +kernel) (by decide +kernel) (by exact fun _ _ _ _ h => h) hS (by rfl) ?_
          apply Exists.intro
          refine ⟨fun w' hSw => ?_, ?_⟩
          · go_simp
            with_reducible rfl
          (try simp only [act_put, act_put_none, List.set_cons_zero, List.set_cons_succ])
          refine held_take (i := 1) (by simp only [List.getElem?_toArray, List.getElem?_cons_succ, List.getElem?_cons_zero]; rfl) (by decide +kernel) (by decide +kernel) (by decide +kernel) (by exact fun _ _ _ _ h => h) hS (by rfl) ?_
          apply Exists.intro
          refine ⟨fun w' hSw => ?_, ?_⟩
          · go_simp
            with_reducible rfl
          (try simp only [act_put, act_put_none, List.set_cons_zero, List.set_cons_succ])
          refine held_take (i := 2) (by simp only [List.getElem?_toArray, List.getElem?_cons_succ, List.getElem?_cons_zero]; rfl) (by decide +kernel) (by decide +kernel) (by decide +kernel) (by exact fun _ _ _ _ h => h) hS (by rfl) ?_
          apply Exists.intro
          refine ⟨fun w' hSw => ?_, ?_⟩
          · go_simp
            with_reducible rfl
          (try simp only [act_put, act_put_none, List.set_cons_zero, List.set_cons_succ])
          refine held_take (i := 4) (by simp only [List.getElem?_toArray, List.getElem?_cons_succ, List.getElem?_cons_zero]; rfl) (by decide +kernel) (by decide +kernel) (by decide +kernel) (by exact fun _ _ _ _ h => h) hS (by rfl) ?_
          apply Exists.intro
          refine ⟨fun w' hSw => ?_, ?_⟩
          · go_simp
            with_reducible rfl
          (try simp only [act_put, act_put_none, List.set_cons_zero, List.set_cons_succ])
          refine held_take (i := 5) (by simp only [List.getElem?_toArray, List.getElem?_cons_succ, List.getElem?_cons_zero]; rfl) (by decide +kernel) (by decide +kernel) (by decide +kernel) (by exact fun _ _ _ _ h => h) hS (by rfl) ?_
          apply Exists.intro
          refine ⟨fun w' hSw => ?_, ?_⟩
          · go_simp
            with_reducible rfl
          (try simp only [act_put, act_put_none, List.set_cons_zero, List.set_cons_succ])
          refine held_take (i := 6) (by simp only [List.getElem?_toArray, List.getElem?_cons_succ, List.getElem?_cons_zero]; rfl) (by decide +kernel) (by decide +kernel) (by decide +kernel) (by exact fun _ _ _ _ h => h) hS (by rfl) ?_
          apply Exists.intro
          refine ⟨fun w' hSw => ?_, ?_⟩
          · go_simp
            with_reducible rfl
          (try simp only [act_put, act_put_none, List.set_cons_zero, List.set_cons_succ])
          refine held_take (i := 11) (by simp only [List.getElem?_toArray, List.getElem?_cons_succ, List.getElem?_cons_zero]; rfl) (by decide +kernel) (by decide +kernel) (by decide +kernel) (by exact fun _ _ _ _ h => h) hS (by rfl) ?_
          apply Exists.intro
          refine ⟨fun w' hSw => ?_, ?_⟩
          · go_simp
            with_reducible rfl
          (try simp only [act_put, act_put_none, List.set_cons_zero, List.set_cons_succ])
          refine wpAnyH_ready (rs := [3]) (by decide +kernel) (by simp) ?_
          refine AllReadyH.cons (i := 3) (by simp only [List.getElem?_toArray, List.getElem?_cons_succ, List.getElem?_cons_zero]; rfl) (fun K hK => ?_) ?_
          · go_simp
            go_at_call 68
            refine (vectors_any fb 6 _).mono ?_
            rintro e w9 ⟨x1, rfl, ho1, hb⟩
            obtain ⟨a1, k1, rfl, -, -, -, -, -⟩ := own_open ho1 (by decide)
            have HV1 := Lib.hid ho1
            have HD := Lib.hid (HD.out.below hb)
            clear ho1 hb
            go_simp
            refine hK.out _ _ trivial (fun _ => ?_)
            clear hK K
            (try simp only [act_put, act_put_none, List.set_cons_zero, List.set_cons_succ])
            refine wpAnyH_ready (rs := [7]) (by decide +kernel) (by simp) ?_
            refine AllReadyH.cons (i := 7) (by simp only [List.getElem?_toArray, List.getElem?_cons_succ, List.getElem?_cons_zero]; rfl) (fun K hK => ?_) ?_
            · go_simp
              go_at_call 68
              refine (vectors_any fb 294 _).mono ?_
              rintro e w10 ⟨x2, rfl, ho2, hb⟩
              obtain ⟨a2, k2, rfl, -, -, -, -, -⟩ := own_open ho2 (by decide)
              have HV2 := Lib.hid ho2
              have HV1 := Lib.hid (own_below HV1.out hb)
              have HD := Lib.hid (HD.out.below hb)
              clear ho2 hb
              go_simp
              refine hK.out _ _ trivial (fun _ => ?_)
              clear hK K
              (try simp only [act_put, act_put_none, List.set_cons_zero, List.set_cons_succ])
              refine wpAnyH_ready (rs := [8]) (by decide +kernel) (by simp) ?_
              refine AllReadyH.cons (i := 8) (by simp only [List.getElem?_toArray, List.getElem?_cons_succ, List.getElem?_cons_zero]; rfl) (fun K hK => ?_) ?_
              · go_simp
                refine hK.out _ _ trivial (fun _ => ?_)
                clear hK K
                (try simp only [act_put, act_put_none, List.set_cons_zero, List.set_cons_succ])
                refine wpAnyH_ready (rs := [9]) (by decide +kernel) (by simp) ?_
                refine AllReadyH.cons (i := 9) (by simp only [List.getElem?_toArray, List.getElem?_cons_succ, List.getElem?_cons_zero]; rfl) (fun K hK => ?_) ?_
                · go_simp
                  go_at_call 67
                  refine (concatV_any _ _ _ _ _ _ _ _ _ (own_alloc HV1.out _) (own_alloc HV2.out _) (by rw [cell_of_rowAt (rowAt_alloc_at _ _ _ _ rfl)]; rfl) (by rw [cell_of_rowAt (rowAt_alloc_at _ _ _ _ rfl)]; rfl) (vecP_one fb 6 18) (vecP_one fb 294 18)).mono ?_
                  rintro e w11 ⟨x3, rfl, ho3, hb⟩
                  rw [show vecP fb 6 18 ++ vecP fb 294 18 = vecP fb 6 36 from (vecP_add fb 6 18 18).symm] at ho3
                  obtain ⟨a3, k3, rfl, -, -, -, ha3, hcl⟩ := own_open ho3 (by decide)
                  have hfl := rowAt_lt HD.out.row
                  have HA3 := Lib.hid (fun x (hx : a3 = some x) => (show fb < x.block from by have := (ha3 x hx).1; simp at this; omega))
                  have HCL := Lib.hid hcl
                  have HD := Lib.hid ((HD.out.alloc _).below hb)
                  clear ho3 hcl hb ha3 hfl HV1 HV2
                  go_simp
                  refine hK.out _ _ trivial (fun _ => ?_)
                  clear hK K
                  (try simp only [act_put, act_put_none, List.set_cons_zero, List.set_cons_succ])
                  refine held_take (i := 10) (by simp only [List.getElem?_toArray, List.getElem?_cons_succ, List.getElem?_cons_zero]; rfl) (by decide +kernel) (by decide +kernel) (by decide +kernel) (by exact fun _ _ _ _ h => h) hS (by rfl) ?_
                  apply Exists.intro
                  refine ⟨fun w' hSw => ?_, ?_⟩
                  · go_simp
                    with_reducible rfl
                  (try simp only [act_put, act_put_none, List.set_cons_zero, List.set_cons_succ])
                  refine wpAnyH_done (by decide +kernel) ?_ _
                  go_wp2_with fail
                  go_loopw [81] (fun i w' => ∃ k : Nat, k ≤ 36 ∧ i = .int .i64 k ∧ DS w w' p fb (catN (576 - 16 * k) (fun j => F.cnt (3 + 16 * k + j)) ++ hwW v F) (partF F.name 1 F.epoch F.cnt F.lock (3 + 16 * k) 0 none 0 0 F.hs) ∧ (∀ j u, (vecP fb 6 36)[j]? = some u → ∃ g, a3 = some ⟨g, 0, none⟩ ∧ w'.cell? ⟨g, j, none⟩ = some u)) (fun i _ => 36 - (intOf i).toNat)
                  case atStart => exact ⟨0, Nat.zero_le _, rfl, HD.out, HCL.out⟩
                  case round =>
                    rename World => wr
                    obtain ⟨k, hk, rfl, hd, hcl⟩ := hrel
                    clear HD HCL
                    have HD := Lib.hid hd
                    have HCL := Lib.hid hcl
                    by_cases hlt : k < 36
                    · obtain ⟨gb, hgb, hc⟩ := hcl k _ (vecP_get fb 6 36 k hlt)
                      subst hgb
                      have g36 : decide ((k : Int) < 36) = true := decide_eq_true (by omega)
                      clear hcl hd
                      go_wp2_with fail
                      go_loopw [85] (fun i w' => ∃ m : Nat, m ≤ 16 ∧ i = .int .i64 m ∧ DS w w' p fb (catN (576 - (16 * k + m)) (fun j => F.cnt (3 + (16 * k + m) + j)) ++ hwW v F) (partF F.name 1 F.epoch F.cnt F.lock (3 + (16 * k + m)) 0 none 0 0 F.hs) ∧ (∀ j u, (vecP fb 6 36)[j]? = some u → ∃ g, some (⟨gb, 0, none⟩ : Addr) = some ⟨g, 0, none⟩ ∧ w'.cell? ⟨g, j, none⟩ = some u)) (fun i _ => 16 - (intOf i).toNat)
                      case atStart => exact ⟨0, Nat.zero_le _, rfl, HD.out, HCL.out⟩
                      case round =>
                        rename World => wq
                        obtain ⟨m, hm, rfl, hd, hcl⟩ := hrel
                        clear HD HCL hc
                        by_cases hlm : m < 16
                        · rw [cnt_left F.cnt (M := 16 * k + m) (by omega), List.append_assoc] at hd
                          have HD := Lib.hid hd
                          have HCL := Lib.hid hcl
                          clear hd hcl
                          go_wp2_with fail
                          refine (HD.out.read (n := 1) (G' := partF F.name 1 F.epoch F.cnt F.lock (3 + (16 * k + m) + 1) 0 none 0 0 F.hs) (q := fun i => 3 + (3 + (16 * k + m)) + i) (fun i hi => HC.out _ (by omega)) ?c2 (fun i hi => by omega) (part_cnt _ _ _ _ _ (3 + (16 * k + m)) _ _ _ _ _ 1 (by omega)) rfl (by decide)).mono ?_
                          case c2 => intro i hi; obtain rfl : i = 0 := by omega
                                     (try simp)
                                     (try omega)
                          rintro e w7 ⟨rfl, hd, ht⟩
                          have hpf := hd.hi
                          have HCL2 := Lib.hid (fun j u (hu : (vecP fb 6 36)[j]? = some u) => by
                            obtain ⟨g, e1, e2⟩ := HCL.out j u hu
                            have hg : fb < g := HA3.out _ e1
                            exact (⟨g, e1, ht.cell (by omega) (by omega) (((Below.refl _ _).alloc (Nat.le_refl _) _).cell (World.block_lt_of_cell? _ _ e2) |>.trans e2)⟩ : ∃ g, some (⟨gb, 0, none⟩ : Addr) = some ⟨g, 0, none⟩ ∧ w7.cell? ⟨g, j, none⟩ = some u))
                          have HD := Lib.hid hd
                          clear hd ht HCL
                          go_wp2_with fail
                          go_roundw
                          case rel => exact ⟨m + 1, by omega, by go_num, HD.out, HCL2.out⟩
                          case measure => simp [intOf]; omega
                        · obtain rfl : m = 16 := by omega
                          have HD := Lib.hid hd
                          have HCL := Lib.hid hcl
                          clear hd hcl
                          go_wp2_with fail
                          go_roundw
                          case rel => exact ⟨k + 1, by omega, by go_num, HD.out, HCL.out⟩
                          case measure => simp [intOf]; omega
                    · obtain rfl : k = 36 := by omega
                      rw [show 576 - 16 * 36 = 0 from rfl, catN_zero, List.nil_append] at hd
                      clear hcl HD HCL HA3
                      have HD := Lib.hid hd
                      clear hd
                      by_cases h1 : v = 1
                      · have g1 : decide (1 < v) = false := by simp [h1]
                        have hd := HD.out
                        rw [hwW, if_pos h1] at hd
                        have hn0 := say_hn HS.out h1
                        have HF' : Hid (({ F with hA := none, hc := 0 } : Fld).cells = (partF F.name 1 F.epoch F.cnt F.lock (3 + 16 * 36) 0 none 0 0 F.hs).cells) := Lib.hid (by rw [← part_done HR.out HK.out F.lock none 0, hn0])
                        have HOK : Hid (FldOk wr { F with hA := none, hc := 0 }) := Lib.hid ⟨fun i hi => by simp only [hn0] at hi; omega, by simp [hn0], fun _ => rfl, ⟨Nat.le_trans hnl (by decide), Nat.zero_le _⟩⟩
                        have HBK : Hid (∀ x, (none : Option Addr) = some x → fb < x.block) := Lib.hid (fun x hx => by cases hx)
                        have HTY : Hid (∀ x, (none : Option Addr) = some x → ∃ cs, rowAt wr x.block = some (cs, 87)) := Lib.hid (fun x hx => by cases hx)
                        have HD := Lib.hid hd
                        clear hd h1 hn0
                        have HSF : Hid (sayB v { F with hA := none, hc := 0 } = true) := Lib.hid HS.out
                        obtain ⟨F', hF'⟩ : ∃ F', ({ F with hA := none, hc := 0 } : Fld) = F' := ⟨_, rfl⟩
                        rw [hF'] at HF' HOK HSF
                        have hrow : rowAt wr fb = some (F'.cells, 58) := by rw [HF'.out]; exact HD.out.row
                        have HFF := Lib.hid hF'
                        clear hF'
                        go_wp2_with (go_at_call 32; refine (end_is (n := 0) HD.out.rd (by rfl)).mono ?_; rintro e w' ⟨rfl, rfl⟩)
                        refine (saysW_at (v := v) (F := F') HSF.out HOK.out).mono ?_
                        rintro e w8 ⟨rfl, hb⟩
                        have hrow8 := rowKeep hb hrow
                        have hres8 := rowKeep hb HD.out.res
                        have HB8 := Lib.hid (bthen HD.out.bel hb)
                        have HOK8 := Lib.hid (HOK.out.below hb)
                        have HTY8 := Lib.hid (fun x (hx : none = some x) => (HTY.out x hx).imp fun cs hcs => rowKeep hb hcs)
                        have n3 : w.heap.size ≠ fb := by have := HD.out.lo; have := HD.out.hi; omega
                        have n4 : w.heap.size < fb := by have := HD.out.lo; have := HD.out.hi; omega
                        clear hb hrow HD HOK HSF HF'
                        go_upto_region 37 with fail
                        go_region
                        go_wp2
                        have hlr : rowAt (w8.setRow w.heap.size F'.cells).drew w.heap.size = some (F'.cells, 58) := by rw [rowAt_drew]; exact rowAt_setRow_same _ hres8
                        refine ret_tct (v := .agg F'.cells) (u := .int .i64 v) (s := .int .i64 0) rfl rfl rfl rfl rfl (load_fld_row hlr) ?_
                        have hff := HFF.out
                        have hok := HOK8.out
                        subst hff
                        exact ⟨none, 0, rfl, (hok.setRow _ (fun x hx => by have := HBK.out x hx; omega)).below (Below.refl _ _).drew, fun x hx => (HTY8.out x hx).imp fun cs hcs => by rw [rowAt_drew, rowAt_setRow_other _ _ _ _ (by have := HBK.out x hx; omega)]; exact hcs, fun x hx => by have := HBK.out x hx; omega, (below_setRow' HB8.out (Nat.le_refl _) _).drew⟩
                      · have g1 : decide (1 < v) = true := by have := say_ver HS.out; simp; omega
                        have hd := HD.out
                        rw [hwW, if_neg h1] at hd
                        have HD := Lib.hid hd
                        have hhn := rightF_hn HR.out
                        clear hd h1
                        go_wp2_with fail
                        refine (HD.out.count (isB_small (by omega) (by omega)) (by omega) (by omega)).mono ?_
                        rintro e w7 ⟨rfl, hd⟩
                        have HD := Lib.hid hd
                        clear hd
                        go_wp2_with fail
                        go_loopw [101] (fun i w' => ∃ (k : Nat) (A' : Option Addr) (c' : Nat), k ≤ F.hn ∧ i = .int .i64 k ∧ DS w w' p fb (catN (5 * (F.hn - k)) (fun i => F.hs (5 * k + i))) (partF F.name 1 F.epoch F.cnt F.lock 579 0 A' k c' F.hs) ∧ w'.ownsRow (fb + 1) 87 5 (.slice A' k c') k (holdV k F.hs)) (fun i _ => F.hn - (intOf i).toNat)
                        case atStart => exact ⟨0, none, 0, Nat.zero_le _, rfl, by simpa using HD.out, own_nil _ _ _ _⟩
                        case round =>
                          rename World => wr
                          obtain ⟨k, A', c', hk, rfl, hd, hown⟩ := hrel
                          clear HD
                          by_cases hlk : k < F.hn
                          · rw [hold_left F.hs hlk] at hd
                            obtain ⟨_, _, e9, hn9, hle9, hm9, hb9, hc9⟩ := own_open hown (by decide)
                            injection e9 with e1 e2 e3
                            subst e1 e3
                            have HD := Lib.hid hd
                            have HO := Lib.hid hown
                            have HB9 := Lib.hid hb9
                            have hpl := hd.rd.lt
                            have hfl := rowAt_lt hd.row
                            have hlo := hd.lo
                            have hhi := hd.hi
                            clear hd hown hb9 hc9 hn9
                            go_wp2_with fail
                            refine (read_ok p wr.heap.size (wr.heap.size + 1) 5 5 _ (fun i => 0 + i) (sub (5 * k) F.hs) (fun _ => .int .i64 0) _ _ ((HD.out.alloc _).alloc _).rd (Nat.le_trans HD.out.len (by decide)) ?c1 ?c2 (rowPast (rowAt_alloc_at _ _ _ _ rfl)) (fun i hi => by omega) hpl (by omega) (by omega) (by decide)).mono ?_
                            case c1 => intro i hi; exact right_holds HR.out HK.out _ (by omega)
                            case c2 => intro i hi
                                       rw [cell_of_rowAt (rowAt_alloc_at _ _ _ _ (by simp))]
                                       rcases lt_five hi with rfl | rfl | rfl | rfl | rfl <;> rfl
                            rintro e w8 ⟨rfl, hrd, hrow, ht⟩
                            rw [put5] at hrow
                            have hd := ((HD.out.alloc _).alloc _).other ht hrd (by omega) (by omega) (by simp)
                            have ho := own_two (own_alloc (own_alloc HO.out _) _) ht (fun a n' c'' e => by
                              injection e with e1 _ _
                              have := HB9.out a e1
                              omega)
                            have c5 : w8.cell? ⟨fb, 586, none⟩ = some (.slice A' k c') := by rw [cell_of_rowAt hd.row]; exact Fld.get586 _
                            have HO8 := Lib.hid ho
                            have HD8 := Lib.hid hd
                            have n8 := rowAt_lt hd.row
                            clear ht hrd hd ho HD HO HB9
                            have HY : Hid (holdV (k + 1) F.hs = holdV k F.hs ++ (ints 5 (sub (5 * k) F.hs)).toList) := Lib.hid (holdV_succ _ _)
                            go_wp2_with (at_builtin; refine wl_append_rows Tryz.underlying56 info_hold rfl (by decide) rfl _ _ rfl rfl (own_alloc HO8.out _) _ 1 1 (ints 5 (sub (5 * k) F.hs)).toList rfl rfl (fun h => by cases h) ?c1 ?c2 ?c3 ?c4 ?c5 ?_)
                            case c1 => exact row_laid _ _ _ _ rfl
                            case c2 => exact fun u hu => (Array.all_eq_true_iff_forall_mem.1 (one_ints 5 _)) u (by simpa using hu)
                            case c3 => omega
                            case c4 => omega
                            case c5 => simp; omega
                            intro v' w9 hown hb
                            rw [← HY.out] at hown
                            obtain ⟨a9, c9, rfl, -, -, -, -, -⟩ := own_open hown (by decide)
                            have hd := (HD8.out.alloc _).belowG hb (by omega)
                            have z1 := frozen_of_rowAt hd.row 586
                            have z2 : w9.cell? ⟨fb, 586, none⟩ = some (.slice A' k c') := by rw [cell_of_rowAt hd.row]; exact Fld.get586 _
                            have HW : Hid (DS w (w9.setCell ⟨fb, 586, none⟩ (.slice a9 (k + 1) c9)) p fb (catN (5 * (F.hn - (k + 1))) (fun i => F.hs (5 * (k + 1) + i))) (partF F.name 1 F.epoch F.cnt F.lock 579 0 a9 (k + 1) c9 F.hs) ∧ (w9.setCell ⟨fb, 586, none⟩ (.slice a9 (k + 1) c9)).ownsRow (fb + 1) 87 5 (.slice a9 (k + 1) c9) (k + 1) (holdV (k + 1) F.hs)) :=
                              Lib.hid ⟨hd.set (part_holds _ _ _ _ _ _ _ _ _ _ _ _ _ _ _), own_keep hown (Only.setCell _) (by omega)⟩
                            clear hown hb hd HO8 HD8 c5 hrow HY
                            go_wp2_with fail
                            go_roundw
                            case rel => exact ⟨k + 1, a9, c9, by omega, by go_num, HW.out⟩
                            case measure => simp [intOf]; omega
                          · obtain rfl : k = F.hn := by omega
                            rw [Nat.sub_self, Nat.mul_zero, catN_zero] at hd
                            obtain ⟨_, _, e9, hn9, hle9, hm9, hb9, hc9⟩ := own_open hown (by decide)
                            injection e9 with e1 _ e3
                            subst e1 e3
                            have HF' : Hid (({ F with hA := A', hc := c' } : Fld).cells = (partF F.name 1 F.epoch F.cnt F.lock 579 0 A' F.hn c' F.hs).cells) := Lib.hid (part_done HR.out HK.out F.lock A' c').symm
                            have HOK : Hid (FldOk wr { F with hA := A', hc := c' }) := Lib.hid ⟨fun i hi => by
                              obtain ⟨g, e1, e2⟩ := hc9 i _ (holdV_get F.hn F.hs i hi)
                              exact ⟨g, 0, e1, by rw [Nat.zero_add]; exact e2⟩, hle9, fun h => (hn9 h).1, ⟨Nat.le_trans hnl (by decide), hm9⟩⟩
                            have HBK : Hid (∀ x, A' = some x → fb < x.block) := Lib.hid (fun x hx => by have := (hb9 x hx).1; omega)
                            have HTY : Hid (∀ x, A' = some x → ∃ cs, rowAt wr x.block = some (cs, 87)) := Lib.hid (fun x hx => own_row hown hx)
                            have HD := Lib.hid hd
                            clear hd hown hn9 hle9 hm9 hb9 hc9
                            have HSF : Hid (sayB v { F with hA := A', hc := c' } = true) := Lib.hid HS.out
                            obtain ⟨F', hF'⟩ : ∃ F', ({ F with hA := A', hc := c' } : Fld) = F' := ⟨_, rfl⟩
                            rw [hF'] at HF' HOK HSF
                            have hrow : rowAt wr fb = some (F'.cells, 58) := by rw [HF'.out]; exact HD.out.row
                            have HFF := Lib.hid hF'
                            clear hF'
                            go_wp2_with (go_at_call 32; refine (end_is (n := 0) HD.out.rd (by rfl)).mono ?_; rintro e w' ⟨rfl, rfl⟩)
                            refine (saysW_at (v := v) (F := F') HSF.out HOK.out).mono ?_
                            rintro e w8 ⟨rfl, hb⟩
                            have hrow8 := rowKeep hb hrow
                            have hres8 := rowKeep hb HD.out.res
                            have HB8 := Lib.hid (bthen HD.out.bel hb)
                            have HOK8 := Lib.hid (HOK.out.below hb)
                            have HTY8 := Lib.hid (fun x (hx : A' = some x) => (HTY.out x hx).imp fun cs hcs => rowKeep hb hcs)
                            have n3 : w.heap.size ≠ fb := by have := HD.out.lo; have := HD.out.hi; omega
                            have n4 : w.heap.size < fb := by have := HD.out.lo; have := HD.out.hi; omega
                            clear hb hrow HD HOK HSF HF'
                            go_upto_region 37 with fail
                            go_region
                            go_wp2
                            have hlr : rowAt (w8.setRow w.heap.size F'.cells).drew w.heap.size = some (F'.cells, 58) := by rw [rowAt_drew]; exact rowAt_setRow_same _ hres8
                            refine ret_tct (v := .agg F'.cells) (u := .int .i64 v) (s := .int .i64 0) rfl rfl rfl rfl rfl (load_fld_row hlr) ?_
                            have hff := HFF.out
                            have hok := HOK8.out
                            subst hff
                            exact ⟨A', c', rfl, (hok.setRow _ (fun x hx => by have := HBK.out x hx; omega)).below (Below.refl _ _).drew, fun x hx => (HTY8.out x hx).imp fun cs hcs => by rw [rowAt_drew, rowAt_setRow_other _ _ _ _ (by have := HBK.out x hx; omega)]; exact hcs, fun x hx => by have := HBK.out x hx; omega, (below_setRow' HB8.out (Nat.le_refl _) _).drew⟩
                exact AllReadyH.nil
              exact AllReadyH.nil
            exact AllReadyH.nil
          exact AllReadyH.nil
        exact AllReadyH.nil
      exact AllReadyH.nil
    · have hd := HD.out
      rw [hk, endW, if_pos hk, ← List.append_nil (catN 4 F.lock)] at hd
      have c1 : wc.cell? ⟨fb, 1, none⟩ = some (.int .i64 2) := by rw [cell_of_rowAt hd.row]; exact Fld.get1 _
      have HD := Lib.hid hd
      have HL := Lib.hid (right_lock HR.out hk)
      have hp2 := part_done2 HR.out hk F.cnt
      have hn0 := hp2.2
      have HF' : Hid (({ F with hA := none, hc := 0 } : Fld).cells = (partF F.name 2 F.epoch F.cnt F.lock 0 4 none 0 0 F.hs).cells) := Lib.hid hp2.1.symm
      have HN0 := Lib.hid hn0
      clear hd hk hp2 hn0
      go_wp2_with fail
      refine (HD.out.read (G' := partF F.name 2 F.epoch F.cnt F.lock 0 4 none 0 0 F.hs) (q := fun i => 582 + i) (fun i hi => HL.out i hi) ?c2 (fun i hi => by omega) (part_lock _ _ _ _ _ _ _ _ _ _) rfl (by decide)).mono ?_
      case c2 => intro i hi; rcases lt_four hi with rfl | rfl | rfl | rfl <;> rfl
      rintro e w7 ⟨rfl, hd, _⟩
      have HD := Lib.hid hd
      have HOK : Hid (FldOk w7 { F with hA := none, hc := 0 }) := Lib.hid ⟨fun i hi => by simp only [HN0.out] at hi; omega, by simp [HN0.out], fun _ => rfl, ⟨Nat.le_trans hnl (by decide), Nat.zero_le _⟩⟩
      have HBK : Hid (∀ x, (none : Option Addr) = some x → fb < x.block) := Lib.hid (fun x hx => by cases hx)
      have HTY : Hid (∀ x, (none : Option Addr) = some x → ∃ cs, rowAt w7 x.block = some (cs, 87)) := Lib.hid (fun x hx => by cases hx)
      clear hd c1 HL
      have HSF : Hid (sayB v { F with hA := none, hc := 0 } = true) := Lib.hid HS.out
      obtain ⟨F', hF'⟩ : ∃ F', ({ F with hA := none, hc := 0 } : Fld) = F' := ⟨_, rfl⟩
      rw [hF'] at HF' HOK HSF
      have hrow : rowAt w7 fb = some (F'.cells, 58) := by rw [HF'.out]; exact HD.out.row
      have HFF := Lib.hid hF'
      clear hF'
      go_wp2_with (go_at_call 32; refine (end_is (n := 0) HD.out.rd (by rfl)).mono ?_; rintro e w' ⟨rfl, rfl⟩)
      refine (saysW_at (v := v) (F := F') HSF.out HOK.out).mono ?_
      rintro e w8 ⟨rfl, hb⟩
      have hrow8 := rowKeep hb hrow
      have hres8 := rowKeep hb HD.out.res
      have HB8 := Lib.hid (bthen HD.out.bel hb)
      have HOK8 := Lib.hid (HOK.out.below hb)
      have HTY8 := Lib.hid (fun x (hx : none = some x) => (HTY.out x hx).imp fun cs hcs => rowKeep hb hcs)
      have n3 : w.heap.size ≠ fb := by have := HD.out.lo; have := HD.out.hi; omega
      have n4 : w.heap.size < fb := by have := HD.out.lo; have := HD.out.hi; omega
      clear hb hrow HD HOK HSF HF'
      go_upto_region 37 with fail
      go_region
      go_wp2
      have hlr : rowAt (w8.setRow w.heap.size F'.cells).drew w.heap.size = some (F'.cells, 58) := by rw [rowAt_drew]; exact rowAt_setRow_same _ hres8
      refine ret_tct (v := .agg F'.cells) (u := .int .i64 v) (s := .int .i64 0) rfl rfl rfl rfl rfl (load_fld_row hlr) ?_
      have hff := HFF.out
      have hok := HOK8.out
      subst hff
      exact ⟨none, 0, rfl, (hok.setRow _ (fun x hx => by have := HBK.out x hx; omega)).below (Below.refl _ _).drew, fun x hx => (HTY8.out x hx).imp fun cs hcs => by rw [rowAt_drew, rowAt_setRow_other _ _ _ _ (by have := HBK.out x hx; omega)]; exact hcs, fun x hx => by have := HBK.out x hx; omega, (below_setRow' HB8.out (Nat.le_refl _) _).drew⟩
end Go.Proofs.YtinhaipnmmgplaaGreat
