/-
  Layer 14 (message): the walk of MessageFields.
-/
import Derived.Test.YtmdojegiimhfcaaZMessageSaidWalk
namespace Go.Proofs.Ytmdojegiimhfcaa
set_option maxRecDepth 20000
open Go.RowKit
set_option linter.unusedSimpArgs false
set_option linter.unusedVariables false
attribute [local go_sem] rowCells rowAt_drewN get_ints getE_ints set_ints size_ints rowAt_alloc rowAt_drew setRow_alloc setRow_drewN setRow_drew setCell_alloc setCell_drewN splice_upd splice_put splice_all load_vec_cut load_vecs_cut load_rights_cut load_counter store_vec store_rights store_counter eql_vec neq_vec index_vec eql_rights neq_rights eql_counter index_vecs cut_ints sub_zero
attribute [local go_sem ↓] xload_vec xstore_vec xalloc_vec xeql_vec xneq_vec xindex_vec xbuild_vec0 xload_rights xstore_rights xalloc_rights xeql_rights xneq_rights xbuild_rights0 xload_vecs xindex_vecs xload_counter xstore_counter xalloc_counter xbuild_counter0 xeql_counter xbuild_counter3
attribute [local go_sem] rowAt_setRow rowAt_setCell load_vec_cut_later load_rights_later load_counter_later Later.cell Later.frozen build3_ints
attribute [local go_sem ↓] xload_field xstore_field xalloc_field xload_lock
attribute [local go_sem] load_field load_field_later store_field load_counter_cut load_lock_cut load_lock_later Fld.size Fld.get0 Fld.get1 Fld.get2 Fld.get586 Fld.getE0 Fld.getE1 Fld.getE2 Fld.getE586 Fld.cut_cnt Fld.cut_lock Fld.cut_all Fld.splice_all strT_size

attribute [local go_sem ↓] xload_hold xstore_hold xalloc_hold
attribute [local go_sem] load_hold load_hold_later store_hold
attribute [local go_sem ↓] xbuild_lock0 xeql_lock xneq_lock xneq_counter
attribute [local go_sem] eql_lock neq_lock neq_counter

attribute [local go_sem] zero_field
attribute [local go_sem ↓] xstore_res xload_res xalloc_res xbuild_res0
attribute [local go_sem] load_res store_res resC_size resC_all resC_splice resC_set0 resC_set1 Fld.set2 Fld.set586
attribute [local go_sem ↓] xbuildS_field
attribute [local go_sem] buildSF_agg


/-- A field without where its holds lie. -/
def nF (F : Fld) : Fld := { F with hA := none, hc := 0 }
/-- What a format leaves of a list. -/
def sL (v : Int) (l : List Fld) : List Fld := (l.filter (keepB v)).map (sF v)
theorem saidL_list (v : Int) (L : Nat → Fld) : ∀ k, saidL v L k = sL v ((List.range k).map L)
  | 0 => rfl
  | k + 1 => by
    unfold saidL
    rw [saidL_list v L k, List.range_succ]
    unfold sL
    by_cases h : keepB v (L k) = true
    · rw [if_pos h]; simp [h]
    · rw [if_neg h]; simp [h]
theorem sL_nF (v : Int) (l : List Fld) : (sL v l).map nF = sL v (l.map nF) := by
  induction l with
  | nil => rfl
  | cons F l ih =>
    unfold sL at ih ⊢
    have h1 : keepB v (nF F) = keepB v F := rfl
    have h2 : nF (sF v F) = sF v (nF F) := by unfold sF nF; split <;> rfl
    by_cases h : keepB v F = true
    · simp [h, h1, h2, ih]
    · simp [h, h1, ih]
theorem range_gl (l : List Fld) (H : Nat → Option Addr × Nat) : ((List.range l.length).map (reF (gl l) H)).map nF = l.map nF := by
  refine List.ext_getElem (by simp) fun i h1 h2 => ?_
  have h3 : i < l.length := by simpa using h2
  simp [reF, gl, nF, List.getD, List.getElem?_eq_getElem h3]
theorem keep_v {v : Int} {F : Fld} (h : keepB v F = true) : rightF F = true ∧ (v = 1 ∨ v = 2 ∨ v = 3) ∧ (v < 3 → F.epoch = 0) := by
  unfold keepB at h
  rw [Bool.and_eq_true, Bool.and_eq_true] at h
  obtain ⟨⟨h1, h2⟩, h3⟩ := h
  simp only [isV, Bool.and_eq_true, decide_eq_true_eq] at h2
  refine ⟨h1, by omega, fun h => ?_⟩
  rw [Bool.or_eq_true, decide_eq_true_eq, decide_eq_true_eq] at h3
  omega
theorem keep_mk {v : Int} {F : Fld} (h1 : rightF F = true) (h2 : 1 ≤ v ∧ v ≤ 3) (h3 : v < 3 → F.epoch = 0) : keepB v F = true := by
  unfold keepB isV
  rw [h1]
  by_cases h : v < 3
  · simp [h2.1, h2.2, h3 h]
  · simp [h2.1, h2.2]; omega
theorem sF_epoch (v : Int) (F : Fld) : (sF v F).epoch = F.epoch := by unfold sF; split <;> rfl
theorem sF_right {v : Int} {F : Fld} (h : keepB v F = true) : rightF (sF v F) = true := by
  have := keep_say h
  unfold sayB at this
  rw [Bool.and_eq_true, Bool.and_eq_true] at this
  exact this.1.1
theorem sF_less {a b : Int} {F : Fld} (h1 : 1 ≤ a) (h : a ≤ b) : sF a (sF b F) = sF a F := by
  unfold sF
  by_cases hb : b = 1
  · have ha : a = 1 := by omega
    subst ha hb
    simp
  · rw [if_neg hb]
theorem sF_more {a b : Int} {F : Fld} (h1 : 1 ≤ a) (h : a ≤ b) : sF b (sF a F) = sF a F := by
  unfold sF
  by_cases ha : a = 1
  · subst ha
    by_cases hb : b = 1 <;> simp [hb]
  · have hb : b ≠ 1 := by omega
    rw [if_neg ha, if_neg hb]
theorem keep_less {a b : Int} {F : Fld} (h1 : 1 ≤ a) (h : a ≤ b) (h3 : b ≤ 3) (hk : keepB b F = true) : keepB a (sF b F) = keepB a F := by
  obtain ⟨k1, k2, k3⟩ := keep_v hk
  by_cases he : a < 3 → F.epoch = 0
  · rw [keep_mk k1 ⟨h1, by omega⟩ he, keep_mk (sF_right hk) ⟨h1, by omega⟩ (by rw [sF_epoch]; exact he)]
  · have e1 : keepB a F = false := by
      cases hq : keepB a F
      · rfl
      · exact absurd (keep_v hq).2.2 he
    have e2 : keepB a (sF b F) = false := by
      cases hq : keepB a (sF b F)
      · rfl
      · have := (keep_v hq).2.2; rw [sF_epoch] at this; exact absurd this he
    rw [e1, e2]
theorem keep_up {a b : Int} {F : Fld} (h : a ≤ b) (h3 : b ≤ 3) (hk : keepB a F = true) : keepB b F = true := by
  obtain ⟨k1, k2, k3⟩ := keep_v hk
  exact keep_mk k1 ⟨by omega, h3⟩ fun h => k3 (by omega)
theorem sL_less {a b : Int} (h1 : 1 ≤ a) (h : a ≤ b) (h3 : b ≤ 3) (l : List Fld) : sL a (sL b l) = sL a l := by
  induction l with
  | nil => rfl
  | cons F l ih =>
    unfold sL at ih ⊢
    by_cases hb : keepB b F = true
    · have e := keep_less (F := F) h1 h h3 hb
      by_cases ha : keepB a F = true
      · simp [hb, ha, e, ih, sF_less h1 h]
      · simp [hb, ha, e, ih]
    · have ha : ¬ keepB a F = true := fun hq => hb (keep_up h h3 hq)
      simp [hb, ha, ih]
theorem sL_more {a b : Int} (h1 : 1 ≤ a) (h : a ≤ b) (h3 : b ≤ 3) (l : List Fld) : sL b (sL a l) = sL a l := by
  induction l with
  | nil => rfl
  | cons F l ih =>
    unfold sL at ih ⊢
    by_cases ha : keepB a F = true
    · have e : keepB b (sF a F) = true := keep_mk (sF_right ha) ⟨by omega, h3⟩ (by rw [sF_epoch]; exact fun h => (keep_v ha).2.2 (by omega))
      simp [ha, e, ih, sF_more h1 h]
    · simp [ha, ih]
theorem said_two {a b : Int} (L : Nat → Fld) (n : Nat) (H : Nat → Option Addr × Nat) (hs : ∀ l, sL a (sL b l) = sL a l) : (saidL a (reF (gl (saidL b L n)) H) (saidL b L n).length).map nF = (saidL a L n).map nF := by
  rw [saidL_list a, sL_nF, range_gl, saidL_list b, sL_nF, hs, saidL_list a, sL_nF]
theorem said_two' {a b : Int} (L : Nat → Fld) (n : Nat) (H : Nat → Option Addr × Nat) (hs : ∀ l, sL b (sL a l) = sL a l) : (saidL b (reF (gl (saidL a L n)) H) (saidL a L n).length).map nF = (saidL a L n).map nF := by
  rw [saidL_list b, sL_nF, range_gl, saidL_list a, sL_nF, hs]
theorem reF_nF {l m : List Fld} (h : l.map nF = m.map nF) (H : Nat → Option Addr × Nat) {i : Nat} (hi : i < m.length) : reF (gl l) H i = reF (gl m) H i := by
  have hl : l.length = m.length := by have := congrArg List.length h; simpa using this
  have h1 : nF (gl l i) = nF (gl m i) := by
    have h2 := congrArg (fun x => x[i]?) h
    simp only [List.getElem?_map, List.getElem?_eq_getElem hi, List.getElem?_eq_getElem (show i < l.length by omega), Option.map_some] at h2
    injection h2 with h2
    simpa [gl, List.getD, List.getElem?_eq_getElem hi, List.getElem?_eq_getElem (show i < l.length by omega)] using h2
  have h3 : ∀ F : Fld, ({ F with hA := (H i).1, hc := (H i).2 } : Fld) = { nF F with hA := (H i).1, hc := (H i).2 } := fun _ => rfl
  unfold reF
  rw [h3 (gl l i), h3 (gl m i), h1]
theorem FldsIs.nF {w : World} {A : Option Addr} {l m : List Fld} {H : Nat → Option Addr × Nat} (h : FldsIs w A l.length (reF (gl l) H)) (he : l.map nF = m.map nF) : FldsIs w A m.length (reF (gl m) H) := by
  have hl : l.length = m.length := by have := congrArg List.length he; simpa using this
  refine ⟨fun i hi => ?_, fun i hi => ?_⟩
  · rw [← reF_nF he H hi]; exact h.cell i (by omega)
  · rw [← reF_nF he H hi]; exact h.ok i (by omega)

set_option maxHeartbeats 4000000 in
theorem messageFields_walk (a : Int) (ha : -9223372036854775808 ≤ a ∧ a ≤ 9223372036854775807) (b : Int) (hb : -9223372036854775808 ≤ b ∧ b ≤ 9223372036854775807) (A : Option Addr) (n c : Nat) (L : Nat → Fld) (hnc : n ≤ c) (hc : c ≤ 9223372036854775807) (hA : A = none → c = 0) (w : World) (h : FldsIs w A n L) :
    Calls Try.prog 7 #[.int .i64 a, .int .i64 b, .slice A n c] w fun e w' => e = .returned (.bool true) ∧ Below w.heap.size w w' := by
  obtain ⟨q, hq⟩ : ∃ b, few13B n L [] [] = b := ⟨_, rfl⟩
  have HF := Lib.hid h
  have HFW := Lib.hid hq
  clear h hq
  go_enter Try.func7, Try.ntmps7
  go_wp2_with fail
  refine (few13_at HF.out (by omega) HFW.out).mono ?_
  rintro e w1 ⟨rfl, hb1⟩
  have HB1 := Lib.hid hb1
  have HF1 := Lib.hid (HF.out.below hb1)
  clear hb1 HF
  cases q
  · go_wp2_with fail
    refine (awake14 _).mono ?_
    rintro e wz ⟨rfl, hb⟩
    have HBZ := Lib.hid (bthen HB1.out hb)
    clear hb
    go_wp2
    go_ret
    exact ⟨rfl, HBZ.out⟩
  · have hn8 := few13_n HFW.out
    by_cases h1 : a < 1
    · have g1 : decide (a < 1) = true := decide_eq_true h1
      go_wp2_with fail
      refine (awake14 _).mono ?_
      rintro e wz ⟨rfl, hb⟩
      have HBZ := Lib.hid (bthen HB1.out hb)
      clear hb
      go_wp2
      go_ret
      exact ⟨rfl, HBZ.out⟩
    · have g1 : decide (a < 1) = false := decide_eq_false h1
      by_cases h2 : b < a
      · have g2 : decide (b < a) = true := decide_eq_true h2
        go_wp2_with fail
        refine (awake14 _).mono ?_
        rintro e wz ⟨rfl, hb⟩
        have HBZ := Lib.hid (bthen HB1.out hb)
        clear hb
        go_wp2
        go_ret
        exact ⟨rfl, HBZ.out⟩
      · have g2 : decide (b < a) = false := decide_eq_false h2
        by_cases h3 : 3 < b
        · have g3 : decide (3 < b) = true := decide_eq_true h3
          go_wp2_with fail
          refine (awake14 _).mono ?_
          rintro e wz ⟨rfl, hb⟩
          have HBZ := Lib.hid (bthen HB1.out hb)
          clear hb
          go_wp2
          go_ret
          exact ⟨rfl, HBZ.out⟩
        · have g3 : decide (3 < b) = false := decide_eq_false h3
          have HE1 := Lib.hid (fun H => said_two (a := a) (b := b) L n H fun l => sL_less (by omega) (by omega) (by omega) l)
          have HE2 := Lib.hid (fun H => said_two' (a := a) (b := b) L n H fun l => sL_more (by omega) (by omega) (by omega) l)
          have la := saidL_len a L n
          have lb := saidL_len b L n
          obtain ⟨X, hX⟩ : ∃ X, saidL a L n = X := ⟨_, rfl⟩
          obtain ⟨Y, hY⟩ : ∃ Y, saidL b L n = Y := ⟨_, rfl⟩
          rw [hX] at HE1 HE2 la
          rw [hY] at HE1 lb
          have HX := Lib.hid hX
          have HY := Lib.hid hY
          clear hX hY
          go_wp2_with fail
          refine (msaid_ok b A n c L _ HF1.out (by omega)).mono ?_
          rintro e w2 ⟨A2, c2, H2, rfl, hrs, hb⟩
          rw [HY.out] at hrs ⊢
          have HS2 := Lib.hid hrs.is.1
          have HB2 := Lib.hid (bthen HB1.out hb)
          have HF2 := Lib.hid (HF1.out.below hb)
          clear hrs hb HB1 HF1
          go_wp2_with fail
          refine (msaid_ok a A2 Y.length c2 (reF (gl Y) H2) _ HS2.out (by omega)).mono ?_
          rintro e w3 ⟨A3, c3, H3, rfl, hrs, hb⟩
          have he := HE1.out H2
          have hle : (saidL a (reF (gl Y) H2) Y.length).length = X.length := by have := congrArg List.length he; simpa using this
          have HS3 := Lib.hid (hrs.is.1.nF he)
          rw [hle]
          have HB3 := Lib.hid (bthen HB2.out hb)
          have HF3 := Lib.hid (HF2.out.below hb)
          clear hrs hb he hle HB2 HF2 HS2
          go_wp2_with fail
          refine (msaid_ok a A n c L _ HF3.out (by omega)).mono ?_
          rintro e w4 ⟨A4, c4, H4, rfl, hrs, hb⟩
          rw [HX.out] at hrs ⊢
          have HS4 := Lib.hid hrs.is.1
          have HS3 := Lib.hid (HS3.out.below hb)
          have HB4 := Lib.hid (bthen HB3.out hb)
          have HF4 := Lib.hid (HF3.out.below hb)
          clear hrs hb HB3 HF3
          go_wp2_with fail
          refine (same13_yes (gl X) H3 H4 A3 A4 X.length c3 c4 _ HS3.out HS4.out (by omega)).mono ?_
          rintro e w5 ⟨rfl, hb⟩
          have HB5 := Lib.hid (bthen HB4.out hb)
          have HF5 := Lib.hid (HF4.out.below hb)
          clear hb HB4 HF4 HS3 HS4
          go_wp2_with fail
          refine (msaid_ok a A n c L _ HF5.out (by omega)).mono ?_
          rintro e w6 ⟨A6, c6, H6, rfl, hrs, hb⟩
          rw [HX.out] at hrs ⊢
          have HS6 := Lib.hid hrs.is.1
          have HB6 := Lib.hid (bthen HB5.out hb)
          have HF6 := Lib.hid (HF5.out.below hb)
          clear hrs hb HB5 HF5
          go_wp2_with fail
          refine (msaid_ok b A6 X.length c6 (reF (gl X) H6) _ HS6.out (by omega)).mono ?_
          rintro e w7 ⟨A7, c7, H7, rfl, hrs, hb⟩
          have he := HE2.out H6
          have hle : (saidL b (reF (gl X) H6) X.length).length = X.length := by have := congrArg List.length he; simpa using this
          have HS7 := Lib.hid (hrs.is.1.nF he)
          rw [hle]
          have HB7 := Lib.hid (bthen HB6.out hb)
          have HF7 := Lib.hid (HF6.out.below hb)
          clear hrs hb he hle HB6 HF6 HS6
          go_wp2_with fail
          refine (msaid_ok a A n c L _ HF7.out (by omega)).mono ?_
          rintro e w8 ⟨A8, c8, H8, rfl, hrs, hb⟩
          rw [HX.out] at hrs ⊢
          have HS8 := Lib.hid hrs.is.1
          have HS7 := Lib.hid (HS7.out.below hb)
          have HB8 := Lib.hid (bthen HB7.out hb)
          clear hrs hb HB7 HF7
          go_wp2_with fail
          refine (same13_yes (gl X) H7 H8 A7 A8 X.length c7 c8 _ HS7.out HS8.out (by omega)).mono ?_
          rintro e w9 ⟨rfl, hb⟩
          have HB9 := Lib.hid (bthen HB8.out hb)
          clear hb HB8 HS7 HS8
          go_wp2_with fail
          refine (awake14 _).mono ?_
          rintro e wz ⟨rfl, hb⟩
          have HBZ := Lib.hid (bthen HB9.out hb)
          clear hb
          go_wp2
          go_ret
          exact ⟨rfl, HBZ.out⟩
end Go.Proofs.Ytmdojegiimhfcaa
