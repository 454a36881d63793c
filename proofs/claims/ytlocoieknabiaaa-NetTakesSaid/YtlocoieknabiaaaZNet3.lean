/-
  Layer 15 (net): a message is taken off the row.
-/
import Derived.Test.YtlocoieknabiaaaZNet2
import Derived.Lib.SliceRun
namespace Go.Proofs.Ytlocoieknabiaaa
set_option maxRecDepth 20000
open Go.RowKit
set_option linter.unusedSimpArgs false
attribute [local go_sem] rowAt_setRow rowAt_setCell Later.cell Later.frozen
theorem eql_txs (w : World) (a : Option Addr) (n c : Nat) : (binOp .eql 48 (.slice a n c) (.slice none 0 0)).run Try.prog w = .ok (.bool a.isNone) w := Lib.run_eql_slice_nil w _ _ a n c 0 0 Try.underlying48
attribute [local go_sem] eql_txs
theorem wp_append_is {o : Oper} {a : Act} {w w' : World} {K : Act → World → Prop} {Q : Exit → Act → World → Prop} {v u x : Value} (s y : Operand) {t1 t2 : TypeId}
    (ho : o.op = .call { callee := .builtin .append, args := #[s, y], argTypes := #[t1, t2] }) (hs : a.eval s = v) (hx : a.eval y = x)
    (hrun : (Builtin.append_ #[t1, t2] o.type #[v, x]).run Try.prog w = .ok u w') (hK : K (a.put o.dst u) w') : o.wp Try.prog a w K Q := by
  unfold Oper.wp execOp
  simp only [ho, resolve, invoke, builtin, Sem.run_bind, Sem.run_pure, Result.andThen_ok, List.map_toArray, List.map_cons, List.map_nil, hs, hx, hrun]
  exact hK
theorem wl_append_is {ops : Array Oper} {rest : List Oper} {o : Oper} {a : Act} {w w' : World} {Q : Exit → Act → World → Prop} {v u x : Value} (hgd : o.guard = none) (s y : Operand) {t1 t2 : TypeId}
    (ho : o.op = .call { callee := .builtin .append, args := #[s, y], argTypes := #[t1, t2] }) (hs : a.eval s = v) (hx : a.eval y = x)
    (hrun : (Builtin.append_ #[t1, t2] o.type #[v, x]).run Try.prog w = .ok u w') (h : wpList Try.prog ops Q rest (a.put o.dst u) w') : wpList Try.prog ops Q (o :: rest) a w := by
  refine wpList_plain hgd fun K hK => ?_
  unfold Oper.wp execOp
  simp only [ho, resolve, invoke, builtin, Sem.run_bind, Sem.run_pure, Result.andThen_ok, List.map_toArray, List.map_cons, List.map_nil, hs, hx, hrun]
  exact hK _ _ h
/-- A slice of texts, copied. -/
theorem tclone_any (ad : Addr) (c : Nat) (V : Nat → Option Addr × Nat) (ps : List (List UInt8)) (w : World) (hc : ∀ i, i < ps.length → w.cell? (ad.add i) = some (.slice (V i).1 (ps.getD i []).length (V i).2)) (h0 : 0 < ps.length) (hlen : ps.length ≤ 1000000) :
    Calls Try.prog 30 #[.slice (some ad) ps.length c] w fun e w' => ∃ nb C R, e = .returned (.slice (some ⟨nb, 0, none⟩) ps.length C) ∧ rowAt w' nb = some (R, 52) ∧ R.size = C ∧ ps.length ≤ C ∧ C ≤ 9223372036854775807 ∧ (∀ i, i < ps.length → R[i]? = some (.slice (V i).1 (ps.getD i []).length (V i).2)) ∧ w.heap.size ≤ nb ∧ Below w.heap.size w w' := by
  obtain ⟨i0, hi, hz0, hz1, hz2⟩ := info_txt
  have hsrc : ∀ W : World, Below w.heap.size w W → Src Try.prog i0.size 48 (.slice (some ad) ps.length c) ps.length (txC V ps) W := fun W hb => by
    rw [hz1]
    refine Src.ofSlice W Try.underlying48 ad ps.length c (txC V ps) (by rw [txC_len, Nat.mul_one]) (fun j u hj => ?_) (fun u hu => ?_)
    · have hlt : j < ps.length := by rw [← txC_len V ps]; exact (List.getElem?_eq_some_iff.1 hj).1
      rw [txC_get V ps hlt] at hj
      have h1 := hc j hlt
      rw [← hj]
      exact (hb.cell (World.block_lt_of_cell? _ _ h1)).trans h1
    · obtain ⟨i, _, rfl⟩ := List.mem_map.1 hu
      rfl
  have HS := Lib.hid hsrc
  clear hsrc hc
  have hcap : Builtin.nextslicecap (0 + ps.length) 0 * i0.bytes ≤ 281474976710656 := by
    have := nextslicecap_le (need := 0 + ps.length) (old := 0) (by omega)
    rw [hz2]
    omega
  have hW : ∀ W : World, W = w.alloc (.cells #[] 52) → ∀ ty, (Builtin.append_ #[48, 48] ty #[.slice (some ⟨w.heap.size, 0, none⟩) 0 0, .slice (some ad) ps.length c]).run Try.prog W = _ := fun W hW ty =>
    run_append_grow_src W 48 48 ty 52 i0 (.slice none 0 0) Try.underlying48 hi hz0 (some ⟨w.heap.size, 0, none⟩) 0 0 [] (by rw [hz1]; exact run_firstCells_some W.drew 1 0 _ 0 0 [] rfl (fun j v hj => by simp at hj)) _ ps.length _ (HS.out W (by rw [hW]; exact (Below.refl _ _).alloc (Nat.le_refl _) _)) (by omega) (by omega) hcap
  have HW := Lib.hid hW
  clear hW
  have hC1 := grownCap_ge (w.alloc (.cells #[] 52)) (0 + ps.length) 0 52
  have hC2 := grownCap_le_maxLen (w.alloc (.cells #[] 52)) (0 + ps.length) 0 52 (by unfold maxLen; omega)
  go_enter Try.func30, Try.ntmps30
  go_wp2_with (at_builtin; refine wl_append_is rfl _ _ rfl rfl rfl (HW.out _ rfl _) ?_)
  rw [Nat.zero_add] at hC1 hC2
  obtain ⟨C, hC⟩ : ∃ C, grownCap (w.alloc (.cells #[] 52)) ps.length 0 52 = C := ⟨_, rfl⟩
  rw [hC] at hC1 hC2 ⊢
  go_ret
  refine ⟨w.heap.size + 1, C, (txC V ps).toArray ++ Builtin.zeroCells #[Value.slice none 0 0] (C - ps.length), rfl, ?_, ?_, hC1, by unfold maxLen at hC2; omega, fun i hi => ?_, by omega, ?_⟩
  · rw [rowAt_drew]; exact rowAt_alloc_at _ _ _ _ (by simp)
  · rw [Array.size_append, List.size_toArray, txC_len]
    simp [Builtin.zeroCells]
    omega
  · rw [Array.getElem?_append_left (by simp [txC_len, hi]), List.getElem?_toArray]
    exact txC_get V ps hi
  · exact (below_allocS (below_allocS (Below.refl _ _) _) _).drew
theorem Only.setCells (p : Nat) : ∀ (vs : List Value) (i : Nat) (w : World), Only p w (w.setCells p i vs)
  | [], _, _ => Only.refl _ _
  | v :: r, i, w => by rw [World.setCells]; exact (Only.setCell v).trans (Only.setCells p r (i + 1) _)
theorem tdelete_facts (nb m C i : Nat) (R : Array Value) (w : World) (hr : rowAt w nb = some (R, 52)) (hR : R.size = C) (hC : i + 1 + m ≤ C) (hone : ∀ j v, R[j]? = some v → j < i + 1 + m → v.oneCell' = true) :
    ∃ (N : List Value) (X : Option Addr), (if C = i + 1 then some ⟨nb, 0, none⟩ else some ⟨nb, i + 1, none⟩) = X ∧
      (∀ ty, (Builtin.append_ #[48, 48] ty #[.slice (some ⟨nb, 0, none⟩) i C, .slice X m (C - (i + 1))]).run Try.prog w = .ok (.slice (some ⟨nb, 0, none⟩) (i + m) C) (w.setCells nb i N)) ∧
      (∀ ty c, (Builtin.clear_ #[48] ty #[.slice (some ⟨nb, i + m, none⟩) 1 c]).run Try.prog (w.setCells nb i N) = .ok (.tuple #[]) ((w.setCells nb i N).setCells nb (i + m) [.slice none 0 0])) ∧
      (∀ j, j < i + m → ((w.setCells nb i N).setCells nb (i + m) [.slice none 0 0]).cell? ⟨nb, j, none⟩ = if j < i then R[j]? else R[j + 1]?) ∧ Only nb w ((w.setCells nb i N).setCells nb (i + m) [.slice none 0 0]) := by
  obtain ⟨i0, hi0, hz0, hz1, hz2⟩ := info_txt
  have hcell : ∀ j, w.cell? ⟨nb, j, none⟩ = R[j]? := fun j => cell_of_rowAt hr j
  have hlen : ((R.toList.drop (i + 1)).take m).length = m := by simp; omega
  have hget : ∀ j, j < m → ((R.toList.drop (i + 1)).take m)[j]? = R[i + 1 + j]? := fun j hj => by rw [List.getElem?_take, if_pos hj, List.getElem?_drop, Array.getElem?_toList]
  have hsome : ∀ j, j < C → (w.cell? ⟨nb, j, none⟩).isSome = true := fun j hj => by rw [hcell, Array.getElem?_eq_getElem (by omega)]; rfl
  have hfz : ∀ j, w.frozen? ⟨nb, j, none⟩ = false := frozen_of_rowAt hr
  obtain ⟨N, hN⟩ : ∃ N, (R.toList.drop (i + 1)).take m = N := ⟨_, rfl⟩
  rw [hN] at hlen hget
  obtain ⟨X, hX⟩ : ∃ X : Option Addr, (if C = i + 1 then some ⟨nb, 0, none⟩ else some ⟨nb, i + 1, none⟩) = X := ⟨_, rfl⟩
  have hsrc : Src Try.prog i0.size 48 (.slice X m (C - (i + 1))) m N w := by
    rw [hz1, ← hX]
    by_cases hCi : C = i + 1
    · rw [if_pos hCi]
      exact Src.ofSlice w Try.underlying48 _ m _ N (by omega) (fun j u hj => by have := (List.getElem?_eq_some_iff.1 hj).1; omega) (fun u hu => by have := List.length_pos_of_mem hu; omega)
    · rw [if_neg hCi]
      refine Src.ofSlice w Try.underlying48 _ m _ N (by omega) (fun j u hj => ?_) (fun u hu => ?_)
      · have hj' := (List.getElem?_eq_some_iff.1 hj).1
        rw [Addr.add_lit, hcell, ← hget j (by omega)]
        exact hj
      · obtain ⟨j, hj, hju⟩ := List.mem_iff_getElem.1 hu
        exact hone (i + 1 + j) u (by rw [← hget j (by omega), List.getElem?_eq_getElem hj, hju]) (by omega)
  have hrun : ∀ ty, (Builtin.append_ #[48, 48] ty #[.slice (some ⟨nb, 0, none⟩) i C, .slice X m (C - (i + 1))]).run Try.prog w = .ok (.slice (some ⟨nb, 0, none⟩) (i + m) C) (w.setCells nb i N) := fun ty => by
    have := run_append_room_src w 48 48 ty 52 i0 Try.underlying48 hi0 nb 0 i C _ m N hsrc (by omega) (fun j hj => by rw [hz1]; exact hsome _ (by omega)) (fun j _ => hfz _)
    rw [hz1, Nat.mul_one, Nat.zero_add] at this
    exact this
  have k1 : ∀ j, j < i + m → (w.setCells nb i N).cell? ⟨nb, j, none⟩ = if j < i then R[j]? else R[j + 1]? := fun j hj => by
    by_cases hji : j < i
    · rw [if_pos hji, World.cell?_setCells_out nb N i w ⟨nb, j, none⟩ (fun _ _ => Or.inl hji), hcell]
    · rw [if_neg hji]
      have := World.cell?_setCells_in nb N i w (fun j hj => hsome _ (by omega)) (j - i) (by omega)
      rw [show i + (j - i) = j by omega] at this
      rw [this, ← List.getElem?_eq_getElem (by omega), hget _ (by omega), show i + 1 + (j - i) = j + 1 by omega]
  have hz : ∀ w, (zeroValue 52).run Try.prog w = .ok (.slice none 0 0) w := fun w => by simp [zeroValue, typeInfo, hi0, hz0]
  have hclr : ∀ ty c, (Builtin.clear_ #[48] ty #[.slice (some ⟨nb, i + m, none⟩) 1 c]).run Try.prog (w.setCells nb i N) = .ok (.tuple #[]) ((w.setCells nb i N).setCells nb (i + m) [.slice none 0 0]) := fun ty c =>
    Lib.run_clear_slice _ 48 52 ty (.slice none 0 0) Try.underlying48 hz rfl rfl nb (i + m) 1 c (by decide) (fun j hj => World.isSome_setCells nb N i w _ (hsome _ (by omega))) (fun j hj => by rw [World.frozen?_setCells]; exact hfz _)
  have k2 : ∀ j, j < i + m → ((w.setCells nb i N).setCells nb (i + m) [.slice none 0 0]).cell? ⟨nb, j, none⟩ = if j < i then R[j]? else R[j + 1]? := fun j hj => by
    rw [World.cell?_setCells_out nb _ (i + m) _ ⟨nb, j, none⟩ (fun _ _ => Or.inl hj)]
    exact k1 j hj
  have k3 : Only nb w ((w.setCells nb i N).setCells nb (i + m) [.slice none 0 0]) := (Only.setCells nb N i w).trans (Only.setCells nb _ (i + m) _)
  exact ⟨N, X, hX, hrun, hclr, k2, k3⟩
theorem tdelete_any (nb m C i : Nat) (R : Array Value) (w : World) (hr : rowAt w nb = some (R, 52)) (hR : R.size = C) (hC : i + 1 + m ≤ C) (hone : ∀ j v, R[j]? = some v → j < i + 1 + m → v.oneCell' = true) :
    Calls Try.prog 29 #[.slice (some ⟨nb, 0, none⟩) (i + 1 + m) C, .int .i64 i, .int .i64 ((i : Int) + 1)] w fun e w' => e = .returned (.slice (some ⟨nb, 0, none⟩) (i + m) C) ∧ (∀ j, j < i + m → w'.cell? ⟨nb, j, none⟩ = if j < i then R[j]? else R[j + 1]?) ∧ Only nb w w' := by
  have e1 : ((i : Int) + 1) = ((i + 1 : Nat) : Int) := by omega
  rw [e1]
  have h1 : i ≤ i + 1 := by omega
  have h2 : i + 1 ≤ i + 1 + m := by omega
  have h3 : i ≤ C := by omega
  have h4 : i + 1 + m - (i + 1) = m := by omega
  have hd : rowAt w.drew nb = some (R, 52) := hr
  have ho : Only nb w w.drew := ⟨Nat.le_refl _, (Below.refl _ _).drew, fun _ _ _ => rfl⟩
  obtain ⟨N, X, hX, hrun, hclr, k2, k3⟩ := tdelete_facts nb m C i R w.drew hd hR hC hone
  have b1 : (0 : Int) ≤ (i : Int) + 1 := by omega
  have b2 : (i : Int) + 1 ≤ (i : Int) + 1 + (m : Int) := by omega
  have b3 : (0 : Int) ≤ (i : Int) + (m : Int) := by omega
  have b4 : (i : Int) + (m : Int) ≤ (i : Int) + 1 + (m : Int) := by omega
  have b5 : i + m ≤ i + 1 + m := by omega
  have b6 : ¬ C = i + m := by omega
  have b7 : i + 1 + m - (i + m) = 1 := by omega
  have HA := Lib.hid hrun
  have HL := Lib.hid hclr
  have HC := Lib.hid k2
  have HOn := Lib.hid (ho.trans k3)
  clear hr hone e1 hrun hclr k2 k3 hR hd ho
  go_enter Try.func29, Try.ntmps29
  go_upto_region 5 with fail
  refine wp_region_held_drew (S := fun _ : World => True) (by kernel_rfl) trivial (fun hS => ?_)
  refine held_take (i := 0) (by simp only [List.getElem?_toArray, List.getElem?_cons_succ, List.getElem?_cons_zero]; rfl) (by decide +kernel) (by decide +kernel) (by decide +kernel) (by exact fun _ _ _ _ h => h) hS (by rfl) ?_
  apply Exists.intro
  refine ⟨fun w' hSw => ?_, ?_⟩
  · go_simp
    with_reducible rfl
  (try simp only [act_put, act_put_none, List.set_cons_zero, List.set_cons_succ])
  refine held_take (i := 1) (by simp only [List.getElem?_toArray, List.getElem?_cons_succ, List.getElem?_cons_zero]; rfl) (by decide +kernel) (by decide +kernel) (by decide +kernel) (by exact fun _ _ _ _ h => h) hS (by rfl) ?_
  apply Exists.intro
  refine ⟨fun w' hSw => ?_, ?_⟩
  · go_simp
    with_reducible rfl
  (try simp only [act_put, act_put_none, List.set_cons_zero, List.set_cons_succ])
  refine held_take (i := 2) (by simp only [List.getElem?_toArray, List.getElem?_cons_succ, List.getElem?_cons_zero]; rfl) (by decide +kernel) (by decide +kernel) (by decide +kernel) (by exact fun _ _ _ _ h => h) hS (by rfl) ?_
  apply Exists.intro
  refine ⟨fun w' hSw => ?_, ?_⟩
  · go_simp
    with_reducible rfl
  (try simp only [act_put, act_put_none, List.set_cons_zero, List.set_cons_succ])
  refine held_take (i := 3) (by simp only [List.getElem?_toArray, List.getElem?_cons_succ, List.getElem?_cons_zero]; rfl) (by decide +kernel) (by decide +kernel) (by decide +kernel) (by exact fun _ _ _ _ h => h) hS (by rfl) ?_
  apply Exists.intro
  refine ⟨fun w' hSw => ?_, ?_⟩
  · go_simp
    with_reducible rfl
  (try simp only [act_put, act_put_none, List.set_cons_zero, List.set_cons_succ])
  refine held_take (i := 4) (by simp only [List.getElem?_toArray, List.getElem?_cons_succ, List.getElem?_cons_zero]; rfl) (by decide +kernel) (by decide +kernel) (by decide +kernel) (by exact fun _ _ _ _ h => h) hS (by rfl) ?_
  apply Exists.intro
  refine ⟨fun w' hSw => ?_, ?_⟩
  · go_simp
    with_reducible rfl
  (try simp only [act_put, act_put_none, List.set_cons_zero, List.set_cons_succ])
  refine held_take (i := 5) (by simp only [List.getElem?_toArray, List.getElem?_cons_succ, List.getElem?_cons_zero]; rfl) (by decide +kernel) (by decide +kernel) (by decide +kernel) (by exact fun _ _ _ _ h => h) hS (by rfl) ?_
  apply Exists.intro
  refine ⟨fun w' hSw => ?_, ?_⟩
  · go_simp
    with_reducible rfl
  (try simp only [act_put, act_put_none, List.set_cons_zero, List.set_cons_succ])
  refine wpAnyH_ready (rs := [6]) (by decide +kernel) (by simp) ?_
  refine AllReadyH.cons (i := 6) (by simp only [List.getElem?_toArray, List.getElem?_cons_succ, List.getElem?_cons_zero]; rfl) (fun K hK => ?_) ?_
  · refine wp_append_is _ _ rfl rfl rfl (HA.out _) ?_
    refine hK.out _ _ hS (fun hS2 => ?_)
    clear hK K hS2
    (try simp only [act_put, act_put_none, List.set_cons_zero, List.set_cons_succ])
    refine held_take (i := 7) (by simp only [List.getElem?_toArray, List.getElem?_cons_succ, List.getElem?_cons_zero]; rfl) (by decide +kernel) (by decide +kernel) (by decide +kernel) (by exact fun _ _ _ _ h => h) hS (by rfl) ?_
    apply Exists.intro
    refine ⟨fun w' hSw => ?_, ?_⟩
    · go_simp
      with_reducible rfl
    (try simp only [act_put, act_put_none, List.set_cons_zero, List.set_cons_succ])
    refine wpAnyH_done (by decide +kernel) ?_ _
    clear HA
    have hL := HL.out
    clear HL
    go_wp2_with fail
    go_ret
    refine ⟨rfl, HC.out, HOn.out⟩
  exact AllReadyH.nil
--DEL
end Go.Proofs.Ytlocoieknabiaaa
