/-
  The walk of Play.
-/
import Derived.Test.YtpicfjlcepfneaaPlay
import Derived.Test.YtpicfjlcepfneaaAwake3
namespace Go.Proofs.Ytpicfjlcepfneaa
open Go.RowKit
set_option linter.unusedSimpArgs false
attribute [local go_sem] rowCells rowAt_drewN get_ints getE_ints set_ints size_ints rowAt_alloc rowAt_drew setRow_alloc setRow_drewN setRow_drew setCell_alloc setCell_drewN splice_upd splice_all load_vec_cut load_vecs_cut load_rights_cut store_vec store_rights eql_vec neq_vec index_vec eql_rights neq_rights index_vecs cut_ints sub_zero
attribute [local go_sem ↓] xload_vec xstore_vec xalloc_vec xeql_vec xneq_vec xindex_vec xbuild_vec0 xload_rights xstore_rights xalloc_rights xeql_rights xneq_rights xbuild_rights0 xload_vecs xindex_vecs
attribute [local go_sem] rowAt_setRow rowAt_setCell load_vec_cut_later load_rights_later Later.cell Later.frozen
attribute [local go_sem] rn_true rn_false re_true re_false eqI_self
attribute [local go_sem ↓] xstore_states xload_states xalloc_states xindex_states xstore_do xload_do xalloc_do
attribute [local go_sem] load_states store_states index_states store_do cut_flatA cut_flatA_all splice_flatA splice_flatA_all size_flatA
theorem cell_setRow_other (w : World) (g k i : Nat) (cs : Array Value) (h : k ≠ g) : (w.setRow g cs).cell? ⟨k, i, none⟩ = w.cell? ⟨k, i, none⟩ := World.cell?_of_block (setRow_other w g k cs h)
attribute [local go_sem] cell_setRow_other
theorem stepS_skip {S : Nat → Nat → Int} {v i k n : Int} (h : ¬ (0 ≤ i ∧ i ≤ 15 ∧ n ≤ 1000)) : stepS S v i k n = S := by unfold stepS; rw [if_neg h]
set_option maxRecDepth 100000 in
set_option maxHeartbeats 4000000 in
theorem play_any (A : Option Addr) (c L : Nat) (D : Nat → Int) (hL : L ≤ 60) (hc : L ≤ c) (w : World) (hcell : ∀ p, p < L * 4 → ∃ b o, A = some ⟨b, o, none⟩ ∧ w.cell? ⟨b, o + p, none⟩ = some (.int .i64 (D p))) :
    Calls Try.prog 24 #[.slice A L c] w fun e w' => e = .returned (.agg (flatA (playS D L))) ∧ Below w.heap.size w w' := by
  have HC := Lib.hid hcell
  clear hcell
  go_enter Try.func24, Try.ntmps24
  go_wp2_with fail
  go_loopw [10] (fun i w' => ∃ m : Nat, m ≤ L ∧ i = .int .i64 m ∧ rowAt w' w.heap.size = some (flatA fun _ _ => 0, 39) ∧ rowAt w' (w.heap.size + 1) = some (flatA (playS D m), 39) ∧ Below w.heap.size w w') (fun i _ => L - (intOf i).toNat)
  case atStart => exact ⟨0, by omega, rfl, by simp [rowAt_alloc] <;> omega, by simp [rowAt_alloc, playS], ((Below.refl _ _).alloc (Nat.le_refl _) _).alloc (by simp) _⟩
  case round =>
    rename_i wr
    obtain ⟨m, hm, rfl, q1, q2, hb⟩ := hrel
    have HB := Lib.hid hb
    clear hb
    by_cases hlt : m < L
    · obtain ⟨b, o, rfl, _⟩ := HC.out (m * 4) (by omega)
      have hld : loadAgg Try.prog wr 60 (.pointer (some ⟨b, o + m * 4, none⟩)) = .ok (.value (.agg (ints 4 fun j => D (m * 4 + j)))) wr := load_do fun j hj => by
        obtain ⟨b', o', h1, h2⟩ := HC.out (m * 4 + j) (by omega)
        injection h1 with h1
        injection h1 with h1 h3
        subst h1 h3
        rw [Nat.add_assoc]
        exact (HB.out.cell (World.block_lt_of_cell? _ _ h2)).trans h2
      have hstep : playS D (m + 1) = stepS (playS D m) (D (m * 4)) (D (m * 4 + 1)) (D (m * 4 + 2)) (D (m * 4 + 3)) := rfl
      have HS := Lib.hid hstep
      clear hstep
      go_upto_region 5 with fail
      have p1 := rowPast (o := .cells (ints 4 fun j => D (m * 4 + j)) 60) q1
      have p2 := rowPast (o := .cells (ints 4 fun j => D (m * 4 + j)) 60) q2
      have pd : rowAt (wr.alloc (.cells (ints 4 fun j => D (m * 4 + j)) 60)) wr.heap.size = some (ints 4 fun j => D (m * 4 + j), 60) := rowAt_alloc_at _ _ _ _ rfl
      have HBd := Lib.hid (below_allocS HB.out (.cells (ints 4 fun j => D (m * 4 + j)) 60))
      have l1 := rowAt_lt q1
      have l2 := rowAt_lt q2
      clear hld HB q1 q2
      generalize wr.alloc (.cells (ints 4 fun j => D (m * 4 + j)) 60) = wd at *
      have ld := rowAt_lt pd
      have nd := Nat.ne_of_lt ld
      have d0 : wd.cell? ⟨wr.heap.size, 0, none⟩ = some (.int .i64 (D (m * 4))) := by rw [cell_of_rowAt pd]; exact get_ints 4 _ 0 (by omega)
      have d1 : wd.cell? ⟨wr.heap.size, 1, none⟩ = some (.int .i64 (D (m * 4 + 1))) := by rw [cell_of_rowAt pd]; exact get_ints 4 _ 1 (by omega)
      have d2 : wd.cell? ⟨wr.heap.size, 2, none⟩ = some (.int .i64 (D (m * 4 + 2))) := by rw [cell_of_rowAt pd]; exact get_ints 4 _ 2 (by omega)
      have d3 : wd.cell? ⟨wr.heap.size, 3, none⟩ = some (.int .i64 (D (m * 4 + 3))) := by rw [cell_of_rowAt pd]; exact get_ints 4 _ 3 (by omega)
      generalize D (m * 4) = V at *
      generalize D (m * 4 + 1) = I at *
      generalize D (m * 4 + 2) = K at *
      generalize D (m * 4 + 3) = N at *
      by_cases hi0 : I < 0
      · go_wp2_with fail
        go_roundw
        case rel => exact ⟨m + 1, by omega, by go_num, p1, by rw [HS.out, stepS_skip (by omega)]; exact p2, HBd.out⟩
        case measure => simp [intOf]; omega
      · by_cases hi1 : I ≤ 15
        · by_cases hn : N ≤ 1000
          · obtain ⟨a, rfl⟩ := Int.eq_ofNat_of_zero_le (show 0 ≤ I by omega)
            have ha : a < 16 := by omega
            have ha2 : a * 288 + 288 ≤ 4608 := by omega
            have ha3 : (a : Int) < 16 := by omega
            generalize playS D m = S at *
            by_cases hv0 : V = 0
            · subst hv0
              have c1 := give_any (S a) a N
              have hdo : doR S 0 (a : Int) K N = (giveF (S a) a N, giveE (S a) a N) := by simp [doR]
              have HD := Lib.hid hdo
              generalize giveF (S a) a N = F1 at *
              generalize giveE (S a) a N = E1 at *
              have C1 := Lib.hid c1
              clear c1 hdo
              by_cases h0 : E1 = 0
              · subst h0
                have HT : Hid (stepS S 0 (a : Int) K N = setS S a F1) := Lib.hid (by unfold stepS; rw [if_pos ⟨by omega, by omega, hn⟩, HD.out]; simp)
                clear HD
                go_wp2_with fail
                refine (C1.out _).mono ?_
                rintro e w2 ⟨rfl, hb2⟩
                have t1 := rowKeep hb2 (rowPast p1)
                have t2 := rowKeep hb2 (rowPast p2)
                have t3 : rowAt w2 wd.heap.size = some (ints 288 (S a), 26) := rowKeep hb2 (by simp [rowAt_alloc])
                have td := rowKeep hb2 (rowPast pd)
                have y1 : w2.cell? ⟨wr.heap.size, 1, none⟩ = some (.int .i64 (a : Int)) := (cell_of_rowAt td 1).trans ((cell_of_rowAt pd 1).symm.trans d1)
                have HB2 := Lib.hid (bthen (below_allocS HBd.out _) hb2)
                have k1 := rowAt_lt t1
                have k2 := rowAt_lt t2
                have k3 := rowAt_lt t3
                clear hb2
                go_wp2_with fail
                go_roundw
                case rel =>
                  have nA : ¬ w.heap.size = wd.heap.size := by omega
                  have nB : ¬ w.heap.size + 1 = wd.heap.size := by omega
                  refine ⟨m + 1, by omega, by go_num, ?_, ?_, ?_⟩
                  · simp [rowAt_setRow, *]
                  · rw [HS.out, HT.out]
                    simp [rowAt_setRow, *]
                  · exact below_setRow' (below_setRow' HB2.out (by omega) _) (by omega) _
                case measure => simp [intOf]; omega
              · have h01 : (E1 == 0) = false := by simpa using h0
                have h02 : decide (E1 = 0) = false := by simpa using h0
                have HT : Hid (stepS S 0 (a : Int) K N = S) := Lib.hid (by unfold stepS; rw [if_pos ⟨by omega, by omega, hn⟩, HD.out]; simp [h0])
                clear HD
                go_wp2_with fail
                refine (C1.out _).mono ?_
                rintro e w2 ⟨rfl, hb2⟩
                have t1 := rowKeep hb2 (rowPast p1)
                have t2 := rowKeep hb2 (rowPast p2)
                have t3 : rowAt w2 wd.heap.size = some (ints 288 (S a), 26) := rowKeep hb2 (by simp [rowAt_alloc])
                have td := rowKeep hb2 (rowPast pd)
                have y1 : w2.cell? ⟨wr.heap.size, 1, none⟩ = some (.int .i64 (a : Int)) := (cell_of_rowAt td 1).trans ((cell_of_rowAt pd 1).symm.trans d1)
                have HB2 := Lib.hid (bthen (below_allocS HBd.out _) hb2)
                have k1 := rowAt_lt t1
                have k2 := rowAt_lt t2
                have k3 := rowAt_lt t3
                clear hb2
                go_wp2_with fail
                go_roundw
                case rel =>
                  have nA : ¬ w.heap.size = wd.heap.size := by omega
                  have nB : ¬ w.heap.size + 1 = wd.heap.size := by omega
                  refine ⟨m + 1, by omega, by go_num, ?_, ?_, ?_⟩
                  · simp [rowAt_setRow, *]
                  · rw [HS.out, HT.out]
                    simp [rowAt_setRow, *]
                  · exact below_setRow' HB2.out (by omega) _
                case measure => simp [intOf]; omega
            · by_cases hv1 : V = 1
              · subst hv1
                have c1 := use_any (S a) a N
                have hdo : doR S 1 (a : Int) K N = (useF (S a) a N, useE (S a) a N) := by simp [doR]
                have HD := Lib.hid hdo
                generalize useF (S a) a N = F1 at *
                generalize useE (S a) a N = E1 at *
                have C1 := Lib.hid c1
                clear c1 hdo
                by_cases h0 : E1 = 0
                · subst h0
                  have HT : Hid (stepS S 1 (a : Int) K N = setS S a F1) := Lib.hid (by unfold stepS; rw [if_pos ⟨by omega, by omega, hn⟩, HD.out]; simp)
                  clear HD
                  go_wp2_with fail
                  refine (C1.out _).mono ?_
                  rintro e w2 ⟨rfl, hb2⟩
                  have t1 := rowKeep hb2 (rowPast p1)
                  have t2 := rowKeep hb2 (rowPast p2)
                  have t3 : rowAt w2 wd.heap.size = some (ints 288 (S a), 26) := rowKeep hb2 (by simp [rowAt_alloc])
                  have td := rowKeep hb2 (rowPast pd)
                  have y1 : w2.cell? ⟨wr.heap.size, 1, none⟩ = some (.int .i64 (a : Int)) := (cell_of_rowAt td 1).trans ((cell_of_rowAt pd 1).symm.trans d1)
                  have HB2 := Lib.hid (bthen (below_allocS HBd.out _) hb2)
                  have k1 := rowAt_lt t1
                  have k2 := rowAt_lt t2
                  have k3 := rowAt_lt t3
                  clear hb2
                  go_wp2_with fail
                  go_roundw
                  case rel =>
                    have nA : ¬ w.heap.size = wd.heap.size := by omega
                    have nB : ¬ w.heap.size + 1 = wd.heap.size := by omega
                    refine ⟨m + 1, by omega, by go_num, ?_, ?_, ?_⟩
                    · simp [rowAt_setRow, *]
                    · rw [HS.out, HT.out]
                      simp [rowAt_setRow, *]
                    · exact below_setRow' (below_setRow' HB2.out (by omega) _) (by omega) _
                  case measure => simp [intOf]; omega
                · have h01 : (E1 == 0) = false := by simpa using h0
                  have h02 : decide (E1 = 0) = false := by simpa using h0
                  have HT : Hid (stepS S 1 (a : Int) K N = S) := Lib.hid (by unfold stepS; rw [if_pos ⟨by omega, by omega, hn⟩, HD.out]; simp [h0])
                  clear HD
                  go_wp2_with fail
                  refine (C1.out _).mono ?_
                  rintro e w2 ⟨rfl, hb2⟩
                  have t1 := rowKeep hb2 (rowPast p1)
                  have t2 := rowKeep hb2 (rowPast p2)
                  have t3 : rowAt w2 wd.heap.size = some (ints 288 (S a), 26) := rowKeep hb2 (by simp [rowAt_alloc])
                  have td := rowKeep hb2 (rowPast pd)
                  have y1 : w2.cell? ⟨wr.heap.size, 1, none⟩ = some (.int .i64 (a : Int)) := (cell_of_rowAt td 1).trans ((cell_of_rowAt pd 1).symm.trans d1)
                  have HB2 := Lib.hid (bthen (below_allocS HBd.out _) hb2)
                  have k1 := rowAt_lt t1
                  have k2 := rowAt_lt t2
                  have k3 := rowAt_lt t3
                  clear hb2
                  go_wp2_with fail
                  go_roundw
                  case rel =>
                    have nA : ¬ w.heap.size = wd.heap.size := by omega
                    have nB : ¬ w.heap.size + 1 = wd.heap.size := by omega
                    refine ⟨m + 1, by omega, by go_num, ?_, ?_, ?_⟩
                    · simp [rowAt_setRow, *]
                    · rw [HS.out, HT.out]
                      simp [rowAt_setRow, *]
                    · exact below_setRow' HB2.out (by omega) _
                  case measure => simp [intOf]; omega
              · by_cases hv2 : V = 2
                · subst hv2
                  have c1 := move_any (S a) a K N
                  have hdo : doR S 2 (a : Int) K N = (moveF (S a) a K N, moveE (S a) a K N) := by simp [doR]
                  have HD := Lib.hid hdo
                  generalize moveF (S a) a K N = F1 at *
                  generalize moveE (S a) a K N = E1 at *
                  have C1 := Lib.hid c1
                  clear c1 hdo
                  by_cases h0 : E1 = 0
                  · subst h0
                    have HT : Hid (stepS S 2 (a : Int) K N = setS S a F1) := Lib.hid (by unfold stepS; rw [if_pos ⟨by omega, by omega, hn⟩, HD.out]; simp)
                    clear HD
                    go_wp2_with fail
                    refine (C1.out _).mono ?_
                    rintro e w2 ⟨rfl, hb2⟩
                    have t1 := rowKeep hb2 (rowPast p1)
                    have t2 := rowKeep hb2 (rowPast p2)
                    have t3 : rowAt w2 wd.heap.size = some (ints 288 (S a), 26) := rowKeep hb2 (by simp [rowAt_alloc])
                    have td := rowKeep hb2 (rowPast pd)
                    have y1 : w2.cell? ⟨wr.heap.size, 1, none⟩ = some (.int .i64 (a : Int)) := (cell_of_rowAt td 1).trans ((cell_of_rowAt pd 1).symm.trans d1)
                    have HB2 := Lib.hid (bthen (below_allocS HBd.out _) hb2)
                    have k1 := rowAt_lt t1
                    have k2 := rowAt_lt t2
                    have k3 := rowAt_lt t3
                    clear hb2
                    go_wp2_with fail
                    go_roundw
                    case rel =>
                      have nA : ¬ w.heap.size = wd.heap.size := by omega
                      have nB : ¬ w.heap.size + 1 = wd.heap.size := by omega
                      refine ⟨m + 1, by omega, by go_num, ?_, ?_, ?_⟩
                      · simp [rowAt_setRow, *]
                      · rw [HS.out, HT.out]
                        simp [rowAt_setRow, *]
                      · exact below_setRow' (below_setRow' HB2.out (by omega) _) (by omega) _
                    case measure => simp [intOf]; omega
                  · have h01 : (E1 == 0) = false := by simpa using h0
                    have h02 : decide (E1 = 0) = false := by simpa using h0
                    have HT : Hid (stepS S 2 (a : Int) K N = S) := Lib.hid (by unfold stepS; rw [if_pos ⟨by omega, by omega, hn⟩, HD.out]; simp [h0])
                    clear HD
                    go_wp2_with fail
                    refine (C1.out _).mono ?_
                    rintro e w2 ⟨rfl, hb2⟩
                    have t1 := rowKeep hb2 (rowPast p1)
                    have t2 := rowKeep hb2 (rowPast p2)
                    have t3 : rowAt w2 wd.heap.size = some (ints 288 (S a), 26) := rowKeep hb2 (by simp [rowAt_alloc])
                    have td := rowKeep hb2 (rowPast pd)
                    have y1 : w2.cell? ⟨wr.heap.size, 1, none⟩ = some (.int .i64 (a : Int)) := (cell_of_rowAt td 1).trans ((cell_of_rowAt pd 1).symm.trans d1)
                    have HB2 := Lib.hid (bthen (below_allocS HBd.out _) hb2)
                    have k1 := rowAt_lt t1
                    have k2 := rowAt_lt t2
                    have k3 := rowAt_lt t3
                    clear hb2
                    go_wp2_with fail
                    go_roundw
                    case rel =>
                      have nA : ¬ w.heap.size = wd.heap.size := by omega
                      have nB : ¬ w.heap.size + 1 = wd.heap.size := by omega
                      refine ⟨m + 1, by omega, by go_num, ?_, ?_, ?_⟩
                      · simp [rowAt_setRow, *]
                      · rw [HS.out, HT.out]
                        simp [rowAt_setRow, *]
                      · exact below_setRow' HB2.out (by omega) _
                    case measure => simp [intOf]; omega
                · by_cases hv3 : V = 3
                  · subst hv3
                    by_cases hk : 0 ≤ K ∧ K ≤ 15
                    · obtain ⟨b', rfl⟩ := Int.eq_ofNat_of_zero_le hk.1
                      have hb16 : b' < 16 := by omega
                      have hb2 : b' * 288 + 288 ≤ 4608 := by omega
                      have hb3 : (b' : Int) < 16 := by omega
                      have hb4 : (b' : Int) ≤ 15 := by omega
                      have c1 := rjoinR_any (S a) (S b')
                      have HT : Hid (stepS S 3 (a : Int) (b' : Int) N = setS S a (joinV (S a) (S b'))) := Lib.hid (by unfold stepS; rw [if_pos ⟨by omega, by omega, hn⟩]; simp [doR, hb4])
                      generalize joinV (S a) (S b') = F1 at *
                      have C1 := Lib.hid c1
                      clear c1
                      go_wp2_with fail
                      have t1' := rowPast (o := .cells (ints 288 (S a)) 26) p1
                      have t2' := rowPast (o := .cells (ints 288 (S a)) 26) p2
                      have td' := rowPast (o := .cells (ints 288 (S a)) 26) pd
                      have t3' : rowAt (wd.alloc (.cells (ints 288 (S a)) 26)) wd.heap.size = some (ints 288 (S a), 26) := by simp [rowAt_alloc]
                      have HB2 := Lib.hid (below_allocS HBd.out (.cells (ints 288 (S a)) 26))
                      have k1 := rowAt_lt t1'
                      have k2 := rowAt_lt t2'
                      have k3 := rowAt_lt t3'
                      have k4 := rowAt_lt td'
                      have y1' : (wd.alloc (.cells (ints 288 (S a)) 26)).cell? ⟨wr.heap.size, 1, none⟩ = some (.int .i64 (a : Int)) := (cell_of_rowAt td' 1).trans ((cell_of_rowAt pd 1).symm.trans d1)
                      have y2' : (wd.alloc (.cells (ints 288 (S a)) 26)).cell? ⟨wr.heap.size, 2, none⟩ = some (.int .i64 (b' : Int)) := (cell_of_rowAt td' 2).trans ((cell_of_rowAt pd 2).symm.trans d2)
                      generalize wd.alloc (.cells (ints 288 (S a)) 26) = we at *
                      refine region_quiet_tail 6 (by kernel_rfl) (by kernel_rfl) ?_
                      simp only [List.take_succ_cons, List.take_zero, List.drop_succ_cons, List.drop_zero]
                      repeat (go_big_quiet_step ((go_at_call 25; exact quiet_call (by simp) (C1.out _))))
                      refine wpQuiet_nil ?_
                      intro w3 hb3
                      have t1 := rowKeep hb3 t1'
                      have t2 := rowKeep hb3 t2'
                      have t3 := rowKeep hb3 t3'
                      have td := rowKeep hb3 td'
                      have y1 : w3.cell? ⟨wr.heap.size, 1, none⟩ = some (.int .i64 (a : Int)) := (hb3.cell (p := ⟨wr.heap.size, 1, none⟩) k4).trans y1'
                      have HB3 := Lib.hid (bthen HB2.out hb3)
                      clear hb3 HB2 t1' t2' t3' td' y1' y2' p1 p2 d0 d1 d2 d3 pd
                      have HB2 := HB3
                      clear k1 k2 k3 k4
                      have k1 := rowAt_lt t1
                      have k2 := rowAt_lt t2
                      have k3 := rowAt_lt t3
                      go_wp2_with fail
                      go_roundw
                      case rel =>
                        have nA : ¬ w.heap.size = wd.heap.size := by omega
                        have nB : ¬ w.heap.size + 1 = wd.heap.size := by omega
                        refine ⟨m + 1, by omega, by go_num, ?_, ?_, ?_⟩
                        · simp [rowAt_setRow, *]
                        · rw [HS.out, HT.out]
                          simp [rowAt_setRow, *]
                        · exact below_setRow' (below_setRow' HB2.out (by omega) _) (by omega) _
                      case measure => simp [intOf]; omega
                    · have HT : Hid (stepS S 3 (a : Int) K N = setS S a (S a)) := Lib.hid (by unfold stepS; rw [if_pos ⟨by omega, by omega, hn⟩]; simp [doR, hk])
                      by_cases hk0 : 0 ≤ K
                      · have hk1 : ¬ K ≤ 15 := fun h => hk ⟨hk0, h⟩
                        clear hk
                        go_wp2_with fail
                        go_roundw
                        case rel =>
                          have nA : ¬ w.heap.size = wd.heap.size := by omega
                          have nB : ¬ w.heap.size + 1 = wd.heap.size := by omega
                          refine ⟨m + 1, by omega, by go_num, ?_, ?_, ?_⟩
                          · simp [rowAt_setRow, rowAt_alloc, *]
                          · rw [HS.out, HT.out]
                            simp [rowAt_setRow, rowAt_alloc, *]
                          · exact below_allocS (below_setRow' HBd.out (Nat.le_succ w.heap.size) _) _
                        case measure => simp [intOf]; omega
                      · clear hk
                        go_wp2_with fail
                        go_roundw
                        case rel =>
                          have nA : ¬ w.heap.size = wd.heap.size := by omega
                          have nB : ¬ w.heap.size + 1 = wd.heap.size := by omega
                          refine ⟨m + 1, by omega, by go_num, ?_, ?_, ?_⟩
                          · simp [rowAt_setRow, rowAt_alloc, *]
                          · rw [HS.out, HT.out]
                            simp [rowAt_setRow, rowAt_alloc, *]
                          · exact below_allocS (below_setRow' HBd.out (Nat.le_succ w.heap.size) _) _
                        case measure => simp [intOf]; omega
                  · have HT : Hid (stepS S V (a : Int) K N = setS S a (S a)) := Lib.hid (by unfold stepS; rw [if_pos ⟨by omega, by omega, hn⟩]; simp [doR, hv0, hv1, hv2, hv3])
                    go_wp2_with fail
                    go_roundw
                    case rel =>
                      have nA : ¬ w.heap.size = wd.heap.size := by omega
                      have nB : ¬ w.heap.size + 1 = wd.heap.size := by omega
                      refine ⟨m + 1, by omega, by go_num, ?_, ?_, ?_⟩
                      · simp [rowAt_setRow, rowAt_alloc, *]
                      · rw [HS.out, HT.out]
                        simp [rowAt_setRow, rowAt_alloc, *]
                      · exact below_allocS (below_setRow' HBd.out (Nat.le_succ w.heap.size) _) _
                    case measure => simp [intOf]; omega
          · go_wp2_with fail
            go_roundw
            case rel => exact ⟨m + 1, by omega, by go_num, p1, by rw [HS.out, stepS_skip (by omega)]; exact p2, HBd.out⟩
            case measure => simp [intOf]; omega
        · go_wp2_with fail
          go_roundw
          case rel => exact ⟨m + 1, by omega, by go_num, p1, by rw [HS.out, stepS_skip (by omega)]; exact p2, HBd.out⟩
          case measure => simp [intOf]; omega
    · have hml : m = L := by omega
      subst hml
      have l1 := rowAt_lt q1
      have l2 := rowAt_lt q2
      go_wp2_with fail
      refine ret_c rfl rfl rfl (by simp [go_sem, *]; rfl) ?_
      exact ⟨rfl, below_setRow' HB.out (by omega) _⟩
end Go.Proofs.Ytpicfjlcepfneaa
