/-
  The walk of NumSplits.
-/
import Derived.Test.YtlpfdokaionkjaaAwake1
namespace Go.Proofs.Ytlpfdokaionkjaa
open Go.RowKit

/-- What stands behind the loop. -/
theorem splits_facts {l : List Int} (hl : ∀ x ∈ l, 0 ≤ x) (k : Nat) :
    sumN l.reverse = sumN l ∧ sumE l.reverse = sumE l ∧ (sumE l = 0 → sumE (l.take k) = 0 ∧ sumE (l.drop k) = 0) ∧
    (sumE (l.take k) = 0 → sumE (l.drop k) = 0 → (rn (addOk (sumN (l.take k)) (sumN (l.drop k))) (sumN (l.take k) + sumN (l.drop k)) = sumN l ∧ re (addOk (sumN (l.take k)) (sumN (l.drop k))) = sumE l)) := by
  have h1 : ∀ x ∈ l.reverse, 0 ≤ x := fun x hx => hl x (List.mem_reverse.1 hx)
  have h2 : ∀ x ∈ l.take k, 0 ≤ x := fun x hx => hl x (List.mem_of_mem_take hx)
  have h3 : ∀ x ∈ l.drop k, 0 ≤ x := fun x hx => hl x (List.mem_of_mem_drop hx)
  have e1 : l.reverse.sum = l.sum := List.sum_reverse l
  have e2 : (l.take k).sum + (l.drop k).sum = l.sum := by rw [← List.sum_append, List.take_append_drop]
  have p2 := sum_nn _ h2
  have p3 := sum_nn _ h3
  rw [sumN_pos h1, sumE_pos h1, sumN_pos hl, sumE_pos hl, sumN_pos h2, sumE_pos h2, sumN_pos h3, sumE_pos h3, e1]
  refine ⟨rfl, rfl, fun h => ?_, fun ha hb => ?_⟩
  · have : l.sum ≤ 1099511627776 := by
      by_cases hc : l.sum ≤ 1099511627776
      · exact hc
      · rw [if_neg hc] at h; cases h
    rw [if_pos (by omega), if_pos (by omega)]; exact ⟨rfl, rfl⟩
  · have q2 : (l.take k).sum ≤ 1099511627776 := by
      by_cases hc : (l.take k).sum ≤ 1099511627776
      · exact hc
      · rw [if_neg hc] at ha; cases ha
    have q3 : (l.drop k).sum ≤ 1099511627776 := by
      by_cases hc : (l.drop k).sum ≤ 1099511627776
      · exact hc
      · rw [if_neg hc] at hb; cases hb
    rw [if_pos q2, if_pos q3, e2]
    have hok : addOk (l.take k).sum (l.drop k).sum = decide (l.sum ≤ 1099511627776) := by
      unfold addOk
      rw [isB_iff.2 (show -1099511627776 ≤ (l.take k).sum ∧ _ by omega), isB_iff.2 (show -1099511627776 ≤ (l.drop k).sum ∧ _ by omega), e2, Bool.true_and, Bool.true_and, Bool.eq_iff_iff, isB_iff, decide_eq_true_iff]
      constructor
      · exact fun h => h.2
      · intro h; constructor <;> omega
    rw [hok]
    by_cases hc : l.sum ≤ 1099511627776 <;> simp [rn, re, hc]
theorem sumE_cases (l : List Int) : sumE l = 0 ∨ sumE l = 2 := by unfold sumE; split <;> simp

set_option maxRecDepth 100000 in
set_option maxHeartbeats 4000000 in
theorem numSplits_walk (A : Option Addr) (c : Nat) (l : List Int) (hm : l.length ≤ 9223372036854775807 ∧ (A = none → c = 0 ∧ l = []) ∧ l.length ≤ c) (_hb : ∀ n ∈ l, -9223372036854775808 ≤ n ∧ n ≤ 9223372036854775807) (t : Int) (ht : 0 ≤ t ∧ t ≤ 255) (w : World) (hl : IsInts w A l) :
    Calls Try.prog 9 #[.slice A l.length c, .int .u8 t] w fun e w' => e = .returned (.bool true) ∧ Below w.heap.size w w' := by
  by_cases hlen : 40 < l.length
  · have hi : (40 : Int) < (l.length : Int) := by omega
    have hm1 := hm.1
    clear hl hm _hb
    go_enter Try.func9, Try.ntmps9
    go_wp2_with fail
    refine (awake1 _).mono ?_
    rintro e w1 ⟨rfl, hb1⟩
    have HB1 := Lib.hid hb1
    clear hb1
    go_wp2_with fail
    go_ret
    exact ⟨rfl, HB1.out⟩
  · have hi : (l.length : Int) ≤ 40 := by omega
    have HA := Lib.hid (fun h => (hm.2.1 h).1)
    have HC := Lib.hid hm.2.2
    have Hl := Lib.hid hl
    have hlen' : l.length ≤ 40 := by omega
    obtain ⟨ht0, ht1⟩ := ht
    obtain ⟨q, hq, hqle⟩ : ∃ q : Nat, t % ((l.length : Int) + 1) = (q : Int) ∧ q ≤ l.length := by
      have e1 : 0 ≤ t % ((l.length : Int) + 1) := Int.emod_nonneg _ (by omega)
      have e2 : t % ((l.length : Int) + 1) < (l.length : Int) + 1 := Int.emod_lt_of_pos _ (by omega)
      exact ⟨(t % ((l.length : Int) + 1)).toNat, by omega, by omega⟩
    clear hl hm _hb hlen
    go_enter Try.func9, Try.ntmps9
    go_wp2_with fail
    go_loopw [5, 25] (fun b i w' => ∃ k : Nat, k ≤ l.length ∧ i = .int .i64 k ∧ OwnI w' w.heap.size b (l.take k).reverse ∧ Below w.heap.size w w' ∧ ∀ x ∈ l.take k, 0 ≤ x) (fun _ i _ => l.length - (intOf i).toNat)
    case atStart => exact ⟨0, Nat.zero_le _, rfl, OwnI.nil _ _, Below.refl _ _, fun x hx => by simp at hx⟩
    case round =>
      rename_i wr
      obtain ⟨k, hk, rfl, hown, hb, hpos⟩ := hrel
      by_cases hlt : k < l.length
      · obtain ⟨a', cap', rfl, hints, hA'⟩ := hown.isInts
        have Hown := Lib.hid hown
        have Hints := Lib.hid hints
        have HA' := Lib.hid hA'
        have HB := Lib.hid hb
        have Hpos := Lib.hid hpos
        have hsz := hb.size
        clear hown hints hA' hb hpos
        have hc' := ((Hl.out).below HB.out) k hlt
        obtain ⟨b, off, rfl, hc'⟩ := hc'
        generalize hx : l.getD k 0 = x at hc'
        have Hx := Lib.hid (show l[k] = x by rw [← hx]; simp [List.getD, List.getElem?_eq_getElem hlt])
        have hlr : ((l.take k).reverse.length : Int) ≤ 40 := by simp; omega
        clear hx
        by_cases hneg : x < 0
        · go_wp2_with fail
          refine (awake1 _).mono ?_
          rintro e w1 ⟨rfl, hb1⟩
          have HB1 := Lib.hid hb1
          clear hb1
          go_wp2_with fail
          go_ret
          exact ⟨rfl, bthen HB.out HB1.out⟩
        · have h3 : [x].length + (l.take k).reverse.length ≤ 17592186044416 := by simp; omega
          have h4 : wr.heap.size ≤ (wr.alloc (.cells #[.int .i64 x] 3)).heap.size := by simp
          go_wp2_with (at_builtin; refine wl_append_ints rfl _ _ rfl wr.heap.size _ [x] (l.take k).reverse a' cap' rfl ?c1 rfl ?c2 HA'.out h3 h4 ?_)
          case c1 => exact OwnI.row (rowAt_alloc_at _ _ _ _ rfl) (by simp)
          case c2 => exact Hints.out.below ((Below.refl _ _).alloc (Nat.le_refl _) _)
          intro v' w1 hown1 hgr
          have Hown1 := Lib.hid hown1
          have Hgr := Lib.hid hgr
          clear hown1 hgr
          go_wp2
          go_roundw
          case rel =>
            refine ⟨k + 1, by omega, by go_num, ?_, bthen HB.out (((Below.refl _ _).alloc (Nat.le_refl _) _).trans ⟨Hgr.out.os, Hgr.out.tape, Hgr.out.output, Hgr.out.size, fun k hk => Hgr.out.block k (by simp; omega) (by simp [Value.ownBlock]; omega)⟩), ?_⟩
            · have h := Hown1.out.mono hsz
              rw [List.take_succ_eq_append_getElem hlt, List.reverse_append, Hx.out]
              exact h
            · intro y hy
              rw [List.take_succ_eq_append_getElem hlt] at hy
              rcases List.mem_append.1 hy with hy | hy
              · exact Hpos.out y hy
              · simp [Hx.out] at hy; omega
          case measure => simp [intOf]; omega
      · obtain rfl : k = l.length := by omega
        rw [List.take_length] at hown hpos
        obtain ⟨a', cap', rfl, hints, -⟩ := hown.isInts
        obtain ⟨f1, f2, f3, f4⟩ := splits_facts hpos q
        rw [List.length_reverse]
        have Hints := Lib.hid hints
        have HB := Lib.hid hb
        have hqi : (q : Int) ≤ (l.length : Int) := by omega
        have hqc : q ≤ c := Nat.le_trans hqle HC.out
        have Hl0 := Lib.hid (fun (w1 : World) (h : Below wr.heap.size wr w1) => (Hl.out.below HB.out).below h)
        have S1 := Lib.hid (fun (w : World) (h : IsInts w A l) => sum_any A c l w h (by omega))
        have S2 := Lib.hid (fun (w : World) (h : IsInts w a' l.reverse) => (sum_any a' cap' l.reverse w h (by simp; omega)).mono (R' := fun e w' => e = .returned (.tuple #[.int .i64 (sumN l), .int .i64 (sumE l)]) ∧ Below w.heap.size w w') fun e w' h => ⟨h.1.trans (by rw [f1, f2]), h.2⟩)
        rw [List.length_reverse] at S2
        have S3 := Lib.hid (fun (w : World) (h : IsInts w A l) => sum_any A c (l.take q) w (h.take q) (by simp; omega))
        have S4 := Lib.hid (fun (A' : Option Addr) (hA' : q < c → A' = A.map (·.add q)) (w : World) (h : IsInts w A l) => sum_any A' (c - q) (l.drop q) w (h.drop q (fun hh => hA' (by have := HC.out; omega))) (by simp; omega))
        rw [List.length_take, Nat.min_eq_left hqle] at S3
        rw [List.length_drop] at S4
        have F3 := Lib.hid f3
        have F4 := Lib.hid f4
        clear hown hpos hints hb f1 f2 f3 f4
        have arm1 : True := trivial
        go_wp2_with fail
        refine (S1.out _ (Hl0.out _ (Below.refl _ _))).mono ?_
        rintro e w1 ⟨rfl, hb1⟩
        have HB1 := Lib.hid hb1
        clear hb1
        go_wp2_with fail
        refine (S2.out _ (Hints.out.below HB1.out)).mono ?_
        rintro e w2 ⟨rfl, hb2⟩
        have HB2 := Lib.hid (bthen HB1.out hb2)
        clear hb2 HB1
        go_wp2_with (refine wl_slice_to rfl _ _ rfl A l.length c q rfl rfl hqc ?_)
        refine (S3.out _ (Hl0.out _ HB2.out)).mono ?_
        rintro e w3 ⟨rfl, hb3⟩
        have HB3 := Lib.hid (bthen HB2.out hb3)
        clear hb3 HB2
        go_wp2_with (refine wl_slice_from rfl _ _ rfl A l.length c q rfl rfl hqle ?_)
        intro A2 hA2
        have HA2 := Lib.hid hA2
        clear hA2
        go_wp2_with fail
        refine (S4.out _ HA2.out _ (Hl0.out _ HB3.out)).mono ?_
        rintro e w4 ⟨rfl, hb4⟩
        have HB4 := Lib.hid (bthen HB3.out hb4)
        clear hb4 HB3 S1 S2 S3 S4
        have hE := sumE_cases l
        have hE1 := sumE_cases (l.take q)
        have hE2 := sumE_cases (l.drop q)
        rcases hE1 with hE1 | hE1
        · rcases hE2 with hE2 | hE2
          · obtain ⟨g1, g2⟩ := F4.out hE1 hE2
            have A5 := Lib.hid (add_any (sumN (l.take q)) (sumN (l.drop q)) w4)
            rw [g1, g2] at A5
            clear hE
            go_wp2_with fail
            refine (A5.out).mono ?_
            rintro e w5 ⟨rfl, hb5⟩
            have HB5 := Lib.hid (bthen HB4.out hb5)
            clear hb5 HB4 A5
            go_wp2_with fail
            refine (awake1 _).mono ?_
            rintro e w6 ⟨rfl, hb6⟩
            have HB6 := Lib.hid (bthen HB5.out hb6)
            clear hb6 HB5
            go_wp2_with fail
            go_ret
            exact ⟨rfl, bthen HB.out HB6.out⟩
          · have hE0 : sumE l = 2 := hE.resolve_left (fun h => by have := (F3.out h).2; omega)
            clear hE
            go_wp2_with fail
            refine (awake1 _).mono ?_
            rintro e w6 ⟨rfl, hb6⟩
            have HB6 := Lib.hid (bthen HB4.out hb6)
            clear hb6 HB4
            go_wp2_with fail
            go_ret
            exact ⟨rfl, bthen HB.out HB6.out⟩
        · have hE0 : sumE l = 2 := hE.resolve_left (fun h => by have := (F3.out h).1; omega)
          clear hE
          rcases hE2 with hE2 | hE2
          all_goals
            go_wp2_with fail
            refine (awake1 _).mono ?_
            rintro e w6 ⟨rfl, hb6⟩
            have HB6 := Lib.hid (bthen HB4.out hb6)
            clear hb6 HB4
            go_wp2_with fail
            go_ret
            exact ⟨rfl, bthen HB.out HB6.out⟩
end Go.Proofs.Ytlpfdokaionkjaa
