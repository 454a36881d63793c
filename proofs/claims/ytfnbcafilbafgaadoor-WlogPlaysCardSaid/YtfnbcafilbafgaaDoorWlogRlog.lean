/-
  Layer 12 (wlog): the reference's log: a record more; the last one alone.
-/
import Derived.Test.YtfnbcafilbafgaaDoorWlogFew
namespace Go.Proofs.YtfnbcafilbafgaaDoor
open Go.RowKit
set_option linter.unusedSimpArgs false
set_option linter.unusedVariables false
attribute [local go_sem] rowCells rowAt_alloc rowAt_drew rowAt_setRow rowAt_setCell setRow_alloc load_rlog store_rlog cut2l splice2l load_do12 store_do12 cut4l splice4l
attribute [local go_sem ↓] xstore_rlog xload_rlog xalloc_rlog xload_do12 xstore_do12 xalloc_do12
theorem OwnTxX.k {X : Nat → Prop} {w : World} {v : Value} {ps : List (List UInt8)} (h : OwnTxX X w v ps) : ∃ A c V, v = .slice A ps.length c ∧ TxK X w A V ps ∧ ps.length ≤ c ∧ (A = none → c = 0) := by
  obtain ⟨V, ⟨h1, h2⟩, h3, h4⟩ := h
  rcases h1.2 with ⟨hv, hn⟩ | ⟨g, cap, cur, hv, hbg, hg, hnc, hcm, hcs, htk⟩
  · have : ps = [] := List.eq_nil_of_length_eq_zero hn
    subst this
    exact ⟨none, 0, fun _ => (none, 0, []), hv, ⟨⟨⟨fun i hi => absurd hi (Nat.not_lt_zero _), fun i hi => absurd hi (Nat.not_lt_zero _), fun i hi => absurd hi (Nat.not_lt_zero _), fun i hi => absurd hi (Nat.not_lt_zero _)⟩, fun i hi => absurd hi (Nat.not_lt_zero _)⟩, fun h => absurd rfl h, fun i hi => absurd hi (Nat.not_lt_zero _)⟩, Nat.le_refl _, fun _ => rfl⟩
  · refine ⟨some ⟨g, 0, none⟩, cap, fun i => ((V i).1, (V i).2, ps.getD i []), hv, ⟨⟨⟨fun i hi => ⟨g, 0, rfl, ?_⟩, fun i hi => (h2 i hi).1, fun i hi => (h2 i hi).2.1, fun i hi => (h2 i hi).2.2.1⟩, fun i hi => rfl⟩, fun _ x hx => ?_, h3⟩, hnc, fun h => by cases h⟩
    · have := h1.cells (g := g) (by rw [hv]; rfl) i (.slice (V i).1 (ps.getD i []).length (V i).2) (by simp [txCells, hi])
      rw [Addr.add_lit] at this
      exact this
    · injection hx with hx
      subst hx
      exact ⟨h4 g (by rw [hv]; rfl), cur, rowAt_iff.2 hg⟩
/-- append of texts to a slice that is empty yet. -/
theorem wl_append_textsX {X K : Nat → Prop} {ops : Array Oper} {rest : List Oper} {o : Oper} {a : Act} {w : World} {Q : Exit → Act → World → Prop} (hgd : o.guard = none) (s x : Operand)
    (ho : o.op = .call { callee := .builtin .append, args := #[s, x], argTypes := #[22, 22] }) (B : Nat) (v : Value) (rs : List (List UInt8)) (A : Option Addr) (V : Nat → Option Addr × Nat × List UInt8) (n c : Nat)
    (hv : w.ownsRow B 24 1 v 0 []) (hs : a.eval s = v) (hx : a.eval x = .slice A n c) (hT : TxK K w A V rs) (hn : rs.length = n) (hnc : n ≤ c) (hA : A = none → c = 0) (hlen : n ≤ 1000000) (hB : B ≤ w.heap.size)
    (hKB : ∀ b, K b → b < B) (hKX : ∀ b, K b → X b) (hXB : ∀ b, B ≤ b → X b)
    (h : ∀ v' w', OwnTxX X w' v' rs → Below B w w' → (∀ k, v'.ownBlock = some k → B ≤ k) → wpList Tryd.prog ops Q rest (a.put o.dst v') w') : wpList Tryd.prog ops Q (o :: rest) a w := by
  subst hn
  obtain ⟨i0, hi, hz0, hz1, hz2⟩ := info_text
  have hown : ∀ k, v.ownBlock = some k → B ≤ k := fun k hk => (World.ownsRow.lt hv k hk).1
  have mk : ∀ v' w', w'.ownsRow B 24 1 v' rs.length (txCells (fun i => ((V i).1, (V i).2.1)) rs) → Below B w w' → OwnTxX X w' v' rs := by
    intro v' w' h1 hb
    have hv' : ∀ k, v'.ownBlock = some k → B ≤ k := fun k hk => (World.ownsRow.lt h1 k hk).1
    refine ⟨fun i => ((V i).1, (V i).2.1), ⟨⟨h1.1, h1.2.imp id fun ⟨g, cap, cur, a1, a2, a3⟩ => ⟨g, cap, cur, a1, Nat.zero_le _, a3⟩⟩, fun i hi => ?_⟩, fun i hi hne x hx => hKX _ (hT.2.2 i hi hne x hx), fun k hk => hXB _ (hv' k hk)⟩
    have e := hT.1.2 i hi
    have hy := hT.1.1.by_ i hi
    have hc := hT.1.1.cap i hi
    rw [e] at hy hc
    refine ⟨fun j hj => ?_, hc, hT.1.1.nil i hi, fun hne x hx e2 => ?_⟩
    · obtain ⟨b, o1, g1, g2⟩ := hy j hj
      have := hKB _ (hT.2.2 i hi (by intro e3; rw [e3] at hj; simp at hj) _ g1)
      exact ⟨b, o1, g1, (World.cell?_of_block (hb.block b this)).trans g2⟩
    · have h3 := hKB _ (hT.2.2 i hi hne x hx)
      have h4 := hv' _ e2
      omega
  have bel : ∀ w', w.grownBy w' v.ownBlock → Below B w w' := fun w' hg => ⟨hg.os, hg.tape, hg.output, hg.size, fun k hk => hg.block k (by omega) (fun e => by have := hown _ e.symm; omega)⟩
  cases A with
  | none =>
    have : rs = [] := by
      cases rs with
      | nil => rfl
      | cons y ys => obtain ⟨b, o1, g1, _⟩ := hT.1.1.cell 0 (by simp); cases g1
    subst this
    rw [hA rfl] at hx
    exact wpList_append_own_none hgd s x _ ho B 24 i0 1 Tryd.underlying22 hi v _ _ hs hv hx (h _ _ (mk _ _ hv (Below.refl _ _)) (Below.refl _ _) hown)
  | some ad =>
    refine wpList_append_own _ hgd s x _ ho B 24 i0 (.slice none 0 0) 1 24 Tryd.underlying22 hi hz0 hz1 hz2 rfl (by decide) v _ _ hs hv ad rs.length c (txCells (fun i => ((V i).1, (V i).2.1)) rs) hx (by simp [txCells]) ?_ ?_ (by unfold maxLen; omega) (by omega) hB ?_
    · intro j u hu
      have hj : j < rs.length := by
        have := (List.getElem?_eq_some_iff.1 hu).1
        simpa [txCells] using this
      obtain ⟨b, o1, g1, g2⟩ := hT.1.1.cell j hj
      injection g1 with g1
      subst g1
      rw [Addr.add_lit, g2, hT.1.2 j hj]
      simp [txCells, hj] at hu
      rw [← hu]
      simp [List.getD, List.getElem?_eq_getElem hj]
    · intro u hu
      unfold txCells at hu
      obtain ⟨i, _, rfl⟩ := List.mem_map.1 hu
      rfl
    · intro v' w' h1 h2 _
      have h1' : w'.ownsRow B 24 1 v' rs.length (txCells (fun i => ((V i).1, (V i).2.1)) rs) := by simpa using h1
      exact h v' w' (mk v' w' h1' (bel w' h2)) (bel w' h2) (fun k hk => (World.ownsRow.lt h1' k hk).1)
set_option maxRecDepth 10000 in
set_option maxHeartbeats 4000000 in
theorem rlog_ok {K0 : Nat → Prop} {s : Int} {t : List UInt8} {A AR : Option Addr} {V : Nat → Option Addr × Nat × List UInt8} {rs : List (List UInt8)} {c cR : Nat} (hs : 0 ≤ s ∧ s ≤ 1099511627776) (h : t.length ≤ 32768) (hr : rs.length ≤ 1000) (hl : ∀ p, p ∈ rs → p.length ≤ 32768) (w : World) (hT : TxK K0 w AR V rs) (hcR : rs.length ≤ cR) (hAR : AR = none → cR = 0)
    (hY : IsBy w A t) (htc : t.length ≤ c) (hA : A = none → c = 0) (hKA : t ≠ [] → ∀ x, A = some x → K0 x.block) (hKW : ∀ b, K0 b → b < w.heap.size) (hn : ¬ s < ((flatP rs).length : Int) + t.length + 8) :
    Calls Tryd.prog 25 #[.agg #[.int .i64 s, .slice AR rs.length cR], .slice A t.length c] w fun e w' => ∃ A' c' V', e = .returned (.tuple #[.agg #[.int .i64 s, .slice A' (rs.length + 1) c'], .int .i64 0]) ∧ TxK (fun b => K0 b ∨ w.heap.size ≤ b) w' A' V' (rs ++ [t]) ∧ rs.length + 1 ≤ c' ∧ (A' = none → c' = 0) ∧ Below w.heap.size w w' := by
  have h1 : decide ((32768 : Int) < (t.length : Int)) = false := decide_eq_false (by omega)
  have hfl := flatP_le 32768 rs hl
  have hfl6 : (flatP rs).length ≤ 32776000 := by
    have : (32768 + 8) * rs.length ≤ (32768 + 8) * 1000 := Nat.mul_le_mul_left _ hr
    omega
  have HFL := Lib.hid hfl6
  have HTK := Lib.hid hT
  have HT := Lib.hid hT.1
  have HL := Lib.hid hl
  have HY := Lib.hid hY
  have HKA := Lib.hid hKA
  have HKW := Lib.hid hKW
  have g3 : decide (s < ((flatP rs).length : Int) + t.length + 8) = false := decide_eq_false hn
  have e1 : IntKind.i64.wrap (((flatP rs).length : Int) + (t.length : Int)) = ((flatP rs).length : Int) + (t.length : Int) := IntWalk.i64_in _ (by omega)
  have e2 : IntKind.i64.wrap (((flatP rs).length : Int) + (t.length : Int) + 8) = ((flatP rs).length : Int) + (t.length : Int) + 8 := IntWalk.i64_in _ (by omega)
  clear hT hl hfl hY hKA hKW
  go_enter Tryd.func25, Tryd.ntmps25
  go_upto_region 1 with fail
  obtain ⟨W0, hW0⟩ : ∃ W0, (w.alloc (.cells #[.int .i64 s, .slice AR rs.length cR] 51)).alloc (.cells #[.int .i64 0, .slice none 0 0] 51) = W0 := ⟨_, rfl⟩
  have HB0 : Hid (Below w.heap.size w W0) := Lib.hid (by rw [← hW0]; exact below_allocS (below_allocS (Below.refl _ _) _) _)
  have HR0 : Hid (rowAt W0 w.heap.size = some (#[.int .i64 s, .slice AR rs.length cR], 51)) := Lib.hid (by rw [← hW0]; exact rowPast (rowAt_alloc_at _ _ _ _ rfl))
  have HR1 : Hid (rowAt W0 (w.heap.size + 1) = some (#[.int .i64 0, .slice none 0 0], 51)) := Lib.hid (by rw [← hW0]; exact rowAt_alloc_at _ _ _ _ (World.size_alloc _ _).symm)
  rw [hW0]
  clear hW0
  have HT0 := Lib.hid (HT.out.below HB0.out)
  obtain ⟨g, hg⟩ : ∃ g, w.heap.size = g := ⟨_, rfl⟩
  rw [hg] at HR0 HR1
  rw [hg]
  have HG := Lib.hid hg
  clear hg
  go_upto_region 3 with fail
  refine wp_region_held_drew (S := fun w' : World => Hid (Below W0.heap.size W0 w') ∧ w'.cell? ⟨g, 0, none⟩ = some (.int .i64 s) ∧ w'.cell? ⟨g, 1, none⟩ = some (.slice AR rs.length cR)) (by kernel_rfl) ⟨Lib.hid (Below.refl _ _).drew, by rw [cell_of_rowAt (by rw [rowAt_drew]; exact HR0.out)]; rfl, by rw [cell_of_rowAt (by rw [rowAt_drew]; exact HR0.out)]; rfl⟩ (fun hS => ?_)
  obtain ⟨W7, hW7⟩ : ∃ W7, W0.drew = W7 := ⟨_, rfl⟩
  rw [hW7] at hS
  rw [hW7]
  clear hW7
  refine held_take (i := 0) (by simp only [List.getElem?_toArray, List.getElem?_cons_succ, List.getElem?_cons_zero]; rfl) (by decide +kernel) (by decide +kernel) (by decide +kernel) (by exact fun _ _ _ _ h => h) hS (by rfl) ?_
  apply Exists.intro
  refine ⟨fun w' hSw => ?_, ?_⟩
  · go_simp
    with_reducible rfl
  (try simp only [act_put, act_put_none, List.set_cons_zero, List.set_cons_succ])
  refine held_take (i := 1) (by simp only [List.getElem?_toArray, List.getElem?_cons_succ, List.getElem?_cons_zero]; rfl) (by decide +kernel) (by decide +kernel) (by decide +kernel) (by exact fun _ _ _ _ h => h) hS (by rfl) ?_
  apply Exists.intro
  refine ⟨fun w' hSw => ?_, ?_⟩
  · obtain ⟨_, q1, q2⟩ := hSw
    go_simp
    with_reducible rfl
  (try simp only [act_put, act_put_none, List.set_cons_zero, List.set_cons_succ])
  refine held_take (i := 4) (by simp only [List.getElem?_toArray, List.getElem?_cons_succ, List.getElem?_cons_zero]; rfl) (by decide +kernel) (by decide +kernel) (by decide +kernel) (by exact fun _ _ _ _ h => h) hS (by rfl) ?_
  apply Exists.intro
  refine ⟨fun w' hSw => ?_, ?_⟩
  · go_simp
    with_reducible rfl
  (try simp only [act_put, act_put_none, List.set_cons_zero, List.set_cons_succ])
  refine held_take (i := 5) (by simp only [List.getElem?_toArray, List.getElem?_cons_succ, List.getElem?_cons_zero]; rfl) (by decide +kernel) (by decide +kernel) (by decide +kernel) (by exact fun _ _ _ _ h => h) hS (by rfl) ?_
  apply Exists.intro
  refine ⟨fun w' hSw => ?_, ?_⟩
  · go_simp
    with_reducible rfl
  (try simp only [act_put, act_put_none, List.set_cons_zero, List.set_cons_succ])
  refine held_take (i := 8) (by simp only [List.getElem?_toArray, List.getElem?_cons_succ, List.getElem?_cons_zero]; rfl) (by decide +kernel) (by decide +kernel) (by decide +kernel) (by exact fun _ _ _ _ h => h) hS (by rfl) ?_
  apply Exists.intro
  refine ⟨fun w' hSw => ?_, ?_⟩
  · go_simp
    with_reducible rfl
  (try simp only [act_put, act_put_none, List.set_cons_zero, List.set_cons_succ])
  refine held_take (i := 9) (by simp only [List.getElem?_toArray, List.getElem?_cons_succ, List.getElem?_cons_zero]; rfl) (by decide +kernel) (by decide +kernel) (by decide +kernel) (by exact fun _ _ _ _ h => h) hS (by rfl) ?_
  apply Exists.intro
  refine ⟨fun w' hSw => ?_, ?_⟩
  · obtain ⟨_, q1, q2⟩ := hSw
    go_simp
    with_reducible rfl
  (try simp only [act_put, act_put_none, List.set_cons_zero, List.set_cons_succ])
  refine wpAnyH_ready (rs := [2]) (by decide +kernel) (by simp) ?_
  refine AllReadyH.cons (i := 2) (by simp only [List.getElem?_toArray, List.getElem?_cons_succ, List.getElem?_cons_zero]; rfl) (fun K hK => ?_) ?_
  · go_simp
    go_at_call 10
    refine (rbytes_any AR cR rs.length V rs _ (HT0.out.below hS.1.out) rfl (by omega) HL.out (by have := HFL.out; omega)).mono ?_
    rintro e v1 ⟨va, rfl, hown, hb⟩
    obtain ⟨Aa, ca, rfl, _, _, _, _⟩ := hown.isBy
    have HX := Lib.hid hb
    clear hb hown
    go_simp
    refine hK.out _ _ ⟨Lib.hid (hS.1.out.trans (HX.out.mono hS.1.out.size)), (HX.out.cell (World.block_lt_of_cell? _ _ hS.2.1)).trans hS.2.1, (HX.out.cell (World.block_lt_of_cell? _ _ hS.2.2)).trans hS.2.2⟩ (fun hS2 => ?_)
    clear hS hK K
    have hS := hS2
    clear hS2
    clear HX
    (try simp only [act_put, act_put_none, List.set_cons_zero, List.set_cons_succ])
    refine held_take (i := 3) (by simp only [List.getElem?_toArray, List.getElem?_cons_succ, List.getElem?_cons_zero]; rfl) (by decide +kernel) (by decide +kernel) (by decide +kernel) (by exact fun _ _ _ _ h => h) hS (by rfl) ?_
    apply Exists.intro
    refine ⟨fun w' hSw => ?_, ?_⟩
    · go_simp
      with_reducible rfl
    (try simp only [act_put, act_put_none, List.set_cons_zero, List.set_cons_succ])
    refine held_take (i := 6) (by simp only [List.getElem?_toArray, List.getElem?_cons_succ, List.getElem?_cons_zero]; rfl) (by decide +kernel) (by decide +kernel) (by decide +kernel) (by exact fun _ _ _ _ h => h) hS (by rfl) ?_
    apply Exists.intro
    refine ⟨fun w' hSw => ?_, ?_⟩
    · go_simp
      with_reducible rfl
    (try simp only [act_put, act_put_none, List.set_cons_zero, List.set_cons_succ])
    refine held_take (i := 7) (by simp only [List.getElem?_toArray, List.getElem?_cons_succ, List.getElem?_cons_zero]; rfl) (by decide +kernel) (by decide +kernel) (by decide +kernel) (by exact fun _ _ _ _ h => h) hS (by rfl) ?_
    apply Exists.intro
    refine ⟨fun w' hSw => ?_, ?_⟩
    · go_simp
      with_reducible rfl
    (try simp only [act_put, act_put_none, List.set_cons_zero, List.set_cons_succ])
    refine held_take (i := 10) (by simp only [List.getElem?_toArray, List.getElem?_cons_succ, List.getElem?_cons_zero]; rfl) (by decide +kernel) (by decide +kernel) (by decide +kernel) (by exact fun _ _ _ _ h => h) hS (by rfl) ?_
    apply Exists.intro
    refine ⟨fun w' hSw => ?_, ?_⟩
    · go_simp
      with_reducible rfl
    (try simp only [act_put, act_put_none, List.set_cons_zero, List.set_cons_succ])
    refine wpAnyH_done (by decide +kernel) ?_ _
    have HSF := Lib.hid hS.1.out
    clear hS
    rename World => WF
    have r0 := rowKeep HSF.out HR0.out
    have r1 := rowKeep HSF.out HR1.out
    have hgg : g ≠ g + 1 := by omega
    have hsz := rowAt_lt r1
    have hal : Below WF.heap.size WF (WF.alloc (.cells #[] 24)) := (Below.refl _ _).alloc (Nat.le_refl _) _
    have c1 : (WF.alloc (.cells #[] 24)).cell? ⟨g, 1, none⟩ = some (.slice AR rs.length cR) := by rw [cell_of_rowAt (rowKeep hal r0)]; rfl
    have HV : Hid ((WF.alloc (.cells #[] 24)).ownsRow WF.heap.size 24 1 (.slice (some ⟨WF.heap.size, 0, none⟩) 0 0) 0 []) := Lib.hid ⟨rfl, .inr ⟨WF.heap.size, 0, #[], rfl, Nat.le_refl _, rowAt_iff.1 (rowAt_alloc_at _ _ _ _ rfl), Nat.le_refl _, by decide, rfl, rfl⟩⟩
    have HTW := Lib.hid (((HTK.out.below HB0.out).below HSF.out).below hal)
    have HYW := Lib.hid (((HY.out.below HB0.out).below HSF.out).below hal)
    have hgl : g ≤ WF.heap.size := by omega
    have R0 := Lib.hid (rowKeep hal r0)
    have R1 := Lib.hid (rowKeep hal r1)
    have HBW := Lib.hid (bthen HB0.out HSF.out)
    have HAL := Lib.hid hal
    clear r0 r1 hal HSF HR0 HR1
    go_wp2_with (at_builtin; refine wl_append_textsX (X := fun b => K0 b ∨ w.heap.size ≤ b) (K := K0) rfl _ _ rfl WF.heap.size _ rs AR V rs.length cR HV.out rfl rfl HTW.out rfl hcR hAR (by omega) HAL.out.size (fun b hb => by have := HKW.out b hb; have := HG.out; omega) (fun b hb => Or.inl hb) (fun b hb => Or.inr (by have := HG.out; omega)) ?_)
    intro v4 w4 ho4 hb4 hown4
    have HO4 := Lib.hid ho4
    have HB4 := Lib.hid hb4
    have HW4 := Lib.hid hown4
    have HY4 : Hid (IsBy w4 A t) := Lib.hid (fun j hj => by
      obtain ⟨b1, o1, g1, g2⟩ := HY.out j hj
      have h1 := HKW.out _ (HKA.out (by intro e3; rw [e3] at hj; simp at hj) _ g1)
      obtain ⟨b2, o2, g3, g4⟩ := HYW.out j hj
      refine ⟨b2, o2, g3, (World.cell?_of_block (hb4.block b2 ?_)).trans g4⟩
      rw [g1] at g3
      injection g3 with g3
      injection g3 with g3
      have := HG.out
      dsimp only at h1
      omega)
    clear ho4 hb4 hown4
    go_wp2_with (at_builtin; refine wl_append_textX (X := fun b => K0 b ∨ w.heap.size ≤ b) rfl _ _ rfl _ rs t A t.length c HO4.out rfl rfl rfl HY4.out rfl htc hA (fun hn y hy => ⟨fun e => by have h1 := HKW.out _ (HKA.out hn y hy); have h2 := HW4.out _ e; have := HG.out; omega, Or.inl (HKA.out hn y hy)⟩) (by omega) (fun b hb => Or.inr (by have := HG.out; have := HB4.out.size; have := HAL.out.size; omega)) ?_)
    intro v6 w6 ho6 hg6
    obtain ⟨A6, c6, V6, hv6e, hTx, hc6, ha6⟩ := ho6.k
    subst hv6e
    have hl6 : (rs ++ [t]).length = rs.length + 1 := by simp
    rw [hl6] at hc6
    have hb46 : Below WF.heap.size w4 w6 := ⟨hg6.os, hg6.tape, hg6.output, hg6.size, fun k hk => hg6.block k (by have := HB4.out.size; have := HAL.out.size; omega) (fun e => by have := HW4.out _ e.symm; omega)⟩
    have hb6 : Below WF.heap.size WF w6 := (HAL.out.trans HB4.out).trans hb46
    have s0 : rowAt w6 g = some (#[.int .i64 s, .slice AR rs.length cR], 51) := (rowAt_below (HB4.out.trans hb46) g (by omega)).trans R0.out
    have s1 : rowAt w6 (g + 1) = some (#[.int .i64 0, .slice none 0 0], 51) := (rowAt_below (HB4.out.trans hb46) (g + 1) (by omega)).trans R1.out
    have d1 : w6.cell? ⟨g, 1, none⟩ = some (.slice AR rs.length cR) := by rw [cell_of_rowAt s0]; rfl
    have f1 : w6.frozen? ⟨g, 1, none⟩ = false := frozen_of_rowAt s0 1
    have hbt : Bt g w6 (w6.setCell ⟨g, 1, none⟩ (.slice A6 (rs.length + 1) c6)) := Bt.setCell _ _ _ _
    have t0 : rowAt (w6.setCell ⟨g, 1, none⟩ (.slice A6 (rs.length + 1) c6)) g = some (#[.int .i64 s, .slice A6 (rs.length + 1) c6], 51) := rowAt_setCell_same 1 _ s0
    have t1 : rowAt (w6.setCell ⟨g, 1, none⟩ (.slice A6 (rs.length + 1) c6)) (g + 1) = some (#[.int .i64 0, .slice none 0 0], 51) := (hbt.row (rowAt_lt s1) (by omega)).trans s1
    have hno : NoBy w6 g := by
      intro j y
      rw [cell_of_rowAt s0]
      rcases j with _ | _ | j <;> simp [bc]
    have ho7 := ho6.off s0 (by decide) hno hbt
    have hno7 : NoBy (w6.setCell ⟨g, 1, none⟩ (.slice A6 (rs.length + 1) c6)) (g + 1) := by
      intro j y
      rw [cell_of_rowAt t1]
      rcases j with _ | _ | j <;> simp [bc]
    have hbt8 : Bt (g + 1) (w6.setCell ⟨g, 1, none⟩ (.slice A6 (rs.length + 1) c6)) ((w6.setCell ⟨g, 1, none⟩ (.slice A6 (rs.length + 1) c6)).setRow (g + 1) #[.int .i64 s, .slice A6 (rs.length + 1) c6]) := Bt.setRow _ _ _
    have ho8 := ho7.off t1 (by decide) hno7 hbt8
    have HO8 := Lib.hid ho8
    have hbf : Below w.heap.size w ((w6.setCell ⟨g, 1, none⟩ (.slice A6 (rs.length + 1) c6)).setRow (g + 1) #[.int .i64 s, .slice A6 (rs.length + 1) c6]) := by
      have hg' := HG.out
      have hwf : Below w.heap.size WF w6 := hb6.mono (by omega)
      exact ((HBW.out.trans hwf).trans (hbt.below (by omega) (by have := HBW.out.size; have := hwf.size; omega))).trans (hbt8.below (by omega) (by have := HBW.out.size; have := hwf.size; simp [World.setCell]; omega))
    have HBF := Lib.hid hbf
    have HC6 := Lib.hid hc6
    have HA6 := Lib.hid ha6
    clear ho6 hg6 hTx hb46 hb6 hbt hno hno7 ho7 hbt8 ho8 hbf hc6 ha6 HO4 HB4 HW4 HY4 HV HTW HYW
    generalize hW8 : w6.setCell ⟨g, 1, none⟩ (.slice A6 (rs.length + 1) c6) = W8 at *
    go_wp2_with fail
    refine ret_ct rfl rfl rfl rfl (by simp [go_sem, t0, t1, hgg]; rfl) ?_
    have e6 : ((rs ++ [t]).length) = rs.length + 1 := by simp
    obtain ⟨A9, c9, V9, hv9, hT9, hc9, ha9⟩ := HO8.out.k
    rw [e6] at hv9 hc9
    injection hv9 with hv9 _ hv9c
    subst hv9 hv9c
    exact ⟨_, _, V9, rfl, hT9, hc9, ha9, HBF.out⟩
  exact AllReadyH.nil
end Go.Proofs.YtfnbcafilbafgaaDoor
