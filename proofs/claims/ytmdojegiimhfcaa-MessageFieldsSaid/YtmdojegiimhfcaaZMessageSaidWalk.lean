/-
  Layer 14 (message): the walk of MessageSaid.
-/
import Derived.Test.YtmdojegiimhfcaaZRSaid
import Derived.Test.YtmdojegiimhfcaaZField6
import Derived.Test.YtmdojegiimhfcaaZGJ
import Derived.Test.YtmdojegiimhfcaaZFew14
namespace Go.Proofs.Ytmdojegiimhfcaa
set_option maxRecDepth 20000
open Go.RowKit
set_option linter.unusedSimpArgs false
set_option linter.unusedVariables false
attribute [local go_sem] rowCells rowAt_drewN get_ints getE_ints set_ints size_ints rowAt_alloc rowAt_drew setRow_alloc setRow_drewN setRow_drew setCell_alloc setCell_drewN splice_upd splice_put splice_all load_vec_cut load_vecs_cut load_rights_cut load_counter store_vec store_rights store_counter eql_vec neq_vec index_vec eql_rights neq_rights eql_counter index_vecs cut_ints sub_zero
attribute [local go_sem ↓] xload_vec xstore_vec xalloc_vec xeql_vec xneq_vec xindex_vec xbuild_vec0 xload_rights xstore_rights xalloc_rights xeql_rights xneq_rights xbuild_rights0 xload_vecs xindex_vecs xload_counter xstore_counter xalloc_counter xbuild_counter0 xeql_counter xbuild_counter3
attribute [local go_sem] rowAt_setRow rowAt_setCell load_vec_cut_later load_rights_later load_counter_later Later.cell Later.frozen build3_ints
attribute [local go_sem ↓] xload_field xstore_field xalloc_field xload_lock
attribute [local go_sem] load_field load_field_later store_field load_counter_cut load_lock_cut load_lock_later Fld.size Fld.get0 Fld.get1 Fld.get2 Fld.get586 Fld.getE0 Fld.getE1 Fld.getE2 Fld.getE586 Fld.cut_cnt Fld.cut_lock Fld.cut_all Fld.splice_all strT_size

attribute [local go_sem ↓] xload_hold xstore_hold xalloc_hold
attribute [local go_sem] load_hold load_hold_later store_hold
attribute [local go_sem ↓] xbuild_lock0 xeql_lock xneq_lock xneq_counter
attribute [local go_sem] eql_lock neq_lock neq_counter

attribute [local go_sem] zero_field
attribute [local go_sem ↓] xstore_res xload_res xalloc_res xbuild_res0
attribute [local go_sem] load_res store_res resC_size resC_all resC_splice resC_set0 resC_set1 Fld.set2 Fld.set586
attribute [local go_sem ↓] xbuildS_field
attribute [local go_sem] buildSF_agg


theorem rsays_said {v : Int} {F : Fld} {b : Bool} (e : sayB v F = b) {w : World} (h : FldOk w F) : Calls Try.prog 17 #[.int .i64 v, .agg F.cells] w fun e w' => e = .returned (.bool b) ∧ Below w.heap.size w w' := by rw [← e]; exact rsays_any v F w h
theorem keep_say {v : Int} {F : Fld} (h : keepB v F = true) : sayB v (sF v F) = true := by
  unfold keepB at h
  rw [Bool.and_eq_true, Bool.and_eq_true] at h
  obtain ⟨⟨h1, h2⟩, h3⟩ := h
  have hv : v = 1 ∨ v = 2 ∨ v = 3 := by have := h2; simp only [isV, Bool.and_eq_true, decide_eq_true_eq] at this; omega
  rcases hv with rfl | rfl | rfl
  · have he : F.epoch = 0 := by simpa using h3
    unfold sayB sF
    rw [if_pos rfl, h2]
    simp only [rightF, Bool.and_eq_true] at h1 ⊢
    obtain ⟨⟨⟨q1, q2⟩, q3⟩, q4⟩ := h1
    refine ⟨⟨⟨⟨⟨q1, q2⟩, q3⟩, ?_⟩, trivial⟩, by simp [saysB, he]⟩
    by_cases k1 : F.kind = 1
    · rw [if_pos k1] at q4 ⊢
      simp only [Bool.and_eq_true] at q4 ⊢
      exact ⟨⟨q4.1.1, by simp [holdsB]⟩, q4.2⟩
    · rw [if_neg k1] at q4 ⊢
      by_cases k2 : F.kind = 2
      · rw [if_pos k2] at q4 ⊢
        simp only [Bool.and_eq_true] at q4 ⊢
        exact ⟨⟨q4.1.1, by simp⟩, q4.2⟩
      · rw [if_neg k2] at q4; cases q4
  · have he : F.epoch = 0 := by simpa using h3
    unfold sayB sF
    rw [if_neg (by decide), h1, h2]
    simp [saysB, he]
  · unfold sayB sF
    rw [if_neg (by decide), h1, h2]
    simp [saysB]
theorem saidL_say (v : Int) (L : Nat → Fld) : ∀ k i, i < (saidL v L k).length → sayB v (gl (saidL v L k) i) = true
  | 0, i, h => by simp [saidL] at h
  | k + 1, i, h => by
    unfold saidL at h ⊢
    split
    · rename_i hk
      rw [if_pos hk] at h
      by_cases hi : i < (saidL v L k).length
      · rw [gl_left _ _ hi]; exact saidL_say v L k i hi
      · have : i = (saidL v L k).length := by simp at h; omega
        subst this
        rw [gl_last]
        exact keep_say hk
    · rename_i hk
      rw [if_neg hk] at h
      exact saidL_say v L k i h
theorem few13_at {A : Option Addr} {c n : Nat} {L : Nat → Fld} {w : World} {b : Bool} (h : FldsIs w A n L) (hn : n ≤ 9223372036854775807) (hb : few13B n L [] [] = b) : Calls Try.prog 15 #[.slice A n c, .agg #[.int .i64 0, .string ByteArray.empty, .string ByteArray.empty, .int .i64 0, .int .i64 0]] w fun e w' => e = .returned (.bool b) ∧ Below w.heap.size w w' := by
  rw [← hb]; exact few13_any A c n L 0 [] [] 0 0 w h hn
theorem few13_n {n : Nat} {L : Nat → Fld} {pn po : List UInt8} (h : few13B n L pn po = true) : n ≤ 8 := by
  simp only [few13B, Bool.and_eq_true, decide_eq_true_eq] at h
  exact h.1.1.1
set_option maxHeartbeats 4000000 in
theorem messageSaid_walk (v : Int) (hv : -9223372036854775808 ≤ v ∧ v ≤ 9223372036854775807) (A : Option Addr) (n c : Nat) (L : Nat → Fld) (hnc : n ≤ c) (hc : c ≤ 9223372036854775807) (hA : A = none → c = 0) (w : World) (h : FldsIs w A n L) :
    Calls Try.prog 6 #[.int .i64 v, .slice A n c] w fun e w' => e = .returned (.bool true) ∧ Below w.heap.size w w' := by
  obtain ⟨b, hb⟩ : ∃ b, few13B n L [] [] = b := ⟨_, rfl⟩
  have HF := Lib.hid h
  have HFW := Lib.hid hb
  clear h hb
  go_enter Try.func6, Try.ntmps6
  go_wp2_with fail
  refine (few13_at HF.out (by omega) HFW.out).mono ?_
  rintro e w1 ⟨rfl, hb1⟩
  have HB1 := Lib.hid hb1
  have HF1 := Lib.hid (HF.out.below hb1)
  clear hb1 HF
  cases b
  · go_wp2_with fail
    refine (awake14 _).mono ?_
    rintro e w2 ⟨rfl, hb⟩
    have HB2 := Lib.hid (bthen HB1.out hb)
    clear hb
    go_wp2
    go_ret
    exact ⟨rfl, HB2.out⟩
  · have hn8 := few13_n HFW.out
    go_wp2_with fail
    refine (msaid_ok v A n c L _ HF1.out (by omega)).mono ?_
    rintro e w2 ⟨A2, c2, H2, rfl, hrs, hb⟩
    have HX := Lib.hid hrs.is
    have HB2 := Lib.hid (bthen HB1.out hb)
    have HF2 := Lib.hid (HF1.out.below hb)
    have hsl := saidL_len v L n
    have HSAY := Lib.hid (saidL_say v L n)
    obtain ⟨l, hl⟩ : ∃ l, saidL v L n = l := ⟨_, rfl⟩
    rw [hl] at HX hsl HSAY ⊢
    have HL := Lib.hid hl
    clear hrs hb hl HB1 HF1
    go_wp2_with fail
    go_loopw [18] (fun i w' => ∃ k : Nat, k ≤ l.length ∧ i = .int .i64 k ∧ Below w2.heap.size w2 w') (fun i _ => l.length - (intOf i).toNat)
    case atStart => exact ⟨0, Nat.zero_le _, rfl, Below.refl _ _⟩
    case round =>
      rename World => wr
      obtain ⟨k, hk, rfl, hb⟩ := hrel
      have HBR := Lib.hid hb
      by_cases hlt : k < l.length
      · obtain ⟨b, o, hA2, hlb, hnm, hl1⟩ := (HX.out.1.below hb).at_ hlt
        have hl2 := hl1 wr (Below.refl _ _)
        have HK := Lib.hid ((HX.out.1.below hb).ok k hlt)
        have HS : Hid (sayB v (reF (gl l) H2 k) = true) := Lib.hid (HSAY.out k hlt)
        generalize reF (gl l) H2 k = F at *
        rw [hA2]
        clear hl1 hb hA2 hnm
        go_wp2_with fail
        refine (rsays_said HS.out (HK.out.below ((Below.refl _ _).alloc (Nat.le_refl _) _))).mono ?_
        rintro e w4 ⟨rfl, hb⟩
        have HB4 := Lib.hid (bthen HBR.out (bthen ((Below.refl _ _).alloc (Nat.le_refl _) _) hb))
        clear hb hl2
        go_wp2_with fail
        go_roundw
        case rel => exact ⟨k + 1, by omega, by go_num, HB4.out⟩
        case measure => simp [intOf]; omega
      · have HB3 := Lib.hid (bthen HB2.out hb)
        have HX3 := Lib.hid (HX.out.1.below hb)
        have HF3 := Lib.hid (HF2.out.below hb)
        clear hb
        go_wp2_with fail
        refine (rsaid_ok v A n c L _ HF3.out (by omega)).mono ?_
        rintro e w4 ⟨A4, c4, H4, rfl, hrs, hb⟩
        rw [HL.out] at hrs ⊢
        have HX4 := Lib.hid (HX3.out.below hb)
        have HY4 := Lib.hid hrs.is.1
        have HB4 := Lib.hid (bthen HB3.out hb)
        clear hrs hb
        go_wp2_with fail
        refine (same13_yes (gl l) H2 H4 A2 A4 l.length c2 c4 _ HX4.out HY4.out (by omega)).mono ?_
        rintro e w5 ⟨rfl, hb⟩
        have HB5 := Lib.hid (bthen HB4.out hb)
        clear hb
        go_wp2_with fail
        refine (awake14 _).mono ?_
        rintro e w6 ⟨rfl, hb⟩
        have HB6 := Lib.hid (bthen HB5.out hb)
        clear hb
        go_wp2
        go_ret
        exact ⟨rfl, HB6.out⟩
end Go.Proofs.Ytmdojegiimhfcaa
