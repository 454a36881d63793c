/-
  Layer 12 (wlog): steps that may be gone through; the reference's log in memory.
-/
import Derived.Test.YtfnbcafilbafgaaDoorWlogX
import Derived.Test.YtfnbcafilbafgaaDoorFrameD
namespace Go.Proofs.YtfnbcafilbafgaaDoor
open Go.RowKit
set_option linter.unusedSimpArgs false
set_option linter.unusedVariables false
section
variable (ρ : Operand → Value) (d : Option Tmp) (T : TypeId) (p : String) (af : Array Edge) (gd : Option (Nat × Bool)) (x y : Operand) (w : World)
theorem xstore_rlog : (execOp ρ ⟨d, .store 51 x y, T, p, af, gd⟩).run Tryd.prog w = storeAgg Tryd.prog w 51 (ρ x) (ρ y) := rfl
theorem xload_rlog : (execOp ρ ⟨d, .load 51 x, T, p, af, gd⟩).run Tryd.prog w = loadAgg Tryd.prog w 51 (ρ x) := rfl
theorem xalloc_rlog : (execOp ρ ⟨d, .alloc 51, T, p, af, gd⟩).run Tryd.prog w = .ok (.value (.pointer (some ⟨w.heap.size, 0, none⟩))) (w.alloc (.cells #[.int .i64 0, .slice none 0 0] 51)) :=
  (exec_alloc ..).trans (allocAgg_ok (by kernel_rfl))
theorem xload_do12 : (execOp ρ ⟨d, .load 53 x, T, p, af, gd⟩).run Tryd.prog w = loadAgg Tryd.prog w 53 (ρ x) := rfl
theorem xstore_do12 : (execOp ρ ⟨d, .store 53 x y, T, p, af, gd⟩).run Tryd.prog w = storeAgg Tryd.prog w 53 (ρ x) (ρ y) := rfl
theorem xalloc_do12 : (execOp ρ ⟨d, .alloc 53, T, p, af, gd⟩).run Tryd.prog w = .ok (.value (.pointer (some ⟨w.heap.size, 0, none⟩))) (w.alloc (.cells #[.int .i64 0, .int .i64 0, .int .i64 0, .slice none 0 0] 53)) :=
  (exec_alloc ..).trans (allocAgg_ok (by kernel_rfl))
end
theorem load_rlog (w : World) (g : Nat) (h : (rowAt w g).isSome = true) (hn : 0 + 2 ≤ (rowCells w g).size) :
    loadAgg Tryd.prog w 51 (.pointer (some ⟨g, 0, none⟩)) = .ok (.value (.agg ((rowCells w g).extract 0 (0 + 2)))) w := loadAgg_row Tryd.underlying51 rfl (by kernel_rfl) h hn
theorem store_rlog (w : World) (g : Nat) (a : Int) (A : Option Addr) (n c : Nat) (h : (rowAt w g).isSome = true) (hn : 0 + 2 ≤ (rowCells w g).size) :
    storeAgg Tryd.prog w 51 (.pointer (some ⟨g, 0, none⟩)) (.agg #[.int .i64 a, .slice A n c]) = .ok .skip (w.setRow g (splice (rowCells w g) 0 #[.int .i64 a, .slice A n c])) :=
  storeAgg_row (by kernel_rfl) (by simp [Value.oneCell']) h hn
theorem cut2l (a b : Value) : (#[a, b] : Array Value).extract 0 (0 + 2) = #[a, b] := rfl
theorem splice2l (a b x y : Value) : splice #[a, b] 0 #[x, y] = #[x, y] := rfl
theorem load_step12 {w : World} {b o : Nat} {z : Stp} (h : ∀ j, j < 4 → w.cell? ⟨b, o + j, none⟩ = z.cells[j]?) : loadAgg Tryd.prog w 53 (.pointer (some ⟨b, o, none⟩)) = .ok (.value (.agg #[.int .i64 z.v, .int .i64 z.n, .int .i64 z.m, .slice z.a z.t.length z.c])) w :=
  load_cells (D := #[.int .i64 z.v, .int .i64 z.n, .int .i64 z.m, .slice z.a z.t.length z.c]) Tryd.underlying53 rfl (by kernel_rfl) rfl fun j hj => by rw [h j hj]; simp [Stp.cells]
theorem load_do12 (w : World) (g : Nat) (h : (rowAt w g).isSome = true) (hn : 0 + 4 ≤ (rowCells w g).size) :
    loadAgg Tryd.prog w 53 (.pointer (some ⟨g, 0, none⟩)) = .ok (.value (.agg ((rowCells w g).extract 0 (0 + 4)))) w := loadAgg_row Tryd.underlying53 rfl (by kernel_rfl) h hn
theorem store_do12 (w : World) (g : Nat) (a b c : Int) (A : Option Addr) (n k : Nat) (h : (rowAt w g).isSome = true) (hn : 0 + 4 ≤ (rowCells w g).size) :
    storeAgg Tryd.prog w 53 (.pointer (some ⟨g, 0, none⟩)) (.agg #[.int .i64 a, .int .i64 b, .int .i64 c, .slice A n k]) = .ok .skip (w.setRow g (splice (rowCells w g) 0 #[.int .i64 a, .int .i64 b, .int .i64 c, .slice A n k])) :=
  storeAgg_row (by kernel_rfl) (by simp [Value.oneCell']) h hn
theorem cut4l (a b c d : Value) : (#[a, b, c, d] : Array Value).extract 0 (0 + 4) = #[a, b, c, d] := rfl
theorem splice4l (a b c d x y z u : Value) : splice #[a, b, c, d] 0 #[x, y, z, u] = #[x, y, z, u] := rfl
attribute [local go_sem] rowCells rowAt_alloc rowAt_drew rowAt_setRow rowAt_setCell setRow_alloc load_rlog store_rlog cut2l splice2l load_do12 store_do12 cut4l splice4l
attribute [local go_sem ↓] xstore_rlog xload_rlog xalloc_rlog xload_do12 xstore_do12 xalloc_do12
/-- May the steps be gone through? -/
def fewW (s : Int) (L : Nat) (E : Nat → Stp) : Prop := L ≤ 20 ∧ (∀ i, i < L → (E i).t.length ≤ 300 ∨ 32768 < (E i).t.length) ∧ 0 ≤ s ∧ s ≤ 16384
def FewW (s : Int) (L : Nat) (E : Nat → Stp) (w : World) (e : Ending) (w' : World) : Prop := ∃ b, e = .returned (.bool b) ∧ (b = true → fewW s L E) ∧ Below w.heap.size w w'
theorem FewW.mk {s : Int} {L : Nat} {E : Nat → Stp} {w w' : World} (b : Bool) (e : Ending) (h : e = .returned (.bool b)) (h1 : b = true → fewW s L E) (h2 : Below w.heap.size w w') : FewW s L E w e w' := ⟨b, h, h1, h2⟩
set_option maxRecDepth 10000 in
set_option maxHeartbeats 2000000 in
theorem few12_any (s : Int) (hs : -9223372036854775808 ≤ s ∧ s ≤ 9223372036854775807) (A : Option Addr) (c L : Nat) (E : Nat → Stp) (hL : L ≤ 9223372036854775807) (hc : L ≤ c) (w : World) (h : Steps w A L E) :
    Calls Tryd.prog 24 #[.int .i64 s, .slice A L c] w (FewW s L E w) := by
  have HS := Lib.hid h
  clear h
  go_enter Tryd.func24, Tryd.ntmps24
  go_wp2_with fail
  go_loopw [9] (fun i w' => ∃ k : Nat, k ≤ L ∧ i = .int .i64 k ∧ (∀ j, j < k → (E j).t.length ≤ 300 ∨ 32768 < (E j).t.length) ∧ Below w.heap.size w w') (fun i _ => L - (intOf i).toNat)
  case atStart => exact ⟨0, Nat.zero_le _, rfl, fun j hj => absurd hj (Nat.not_lt_zero _), Below.refl _ _⟩
  case round =>
    rename World => wr
    obtain ⟨k, hk, rfl, hall, hb⟩ := hrel
    have HB := Lib.hid hb
    have HA := Lib.hid hall
    clear hall
    by_cases hlt : k < L
    · obtain ⟨b, o, rfl, hcell⟩ := (HS.out.below hb).cell k hlt
      have hld : loadAgg Tryd.prog wr 53 (.pointer (some ⟨b, o + k * 4, none⟩)) = .ok (.value (.agg #[.int .i64 (E k).v, .int .i64 (E k).n, .int .i64 (E k).m, .slice (E k).a (E k).t.length (E k).c])) wr := load_step12 hcell
      clear hb hcell
      obtain ⟨z, hz⟩ : ∃ z, E k = z := ⟨_, rfl⟩
      rw [hz] at hld
      have HZ := Lib.hid hz
      clear hz
      obtain ⟨zv, zn, zm, za, zc, zt⟩ := z
      by_cases h4 : zt.length ≤ 300
      · have h4' : decide ((300 : Int) < (zt.length : Int)) = false := decide_eq_false (by omega)
        go_wp2_with fail
        go_roundw
        case rel =>
          refine ⟨k + 1, by omega, by go_num, fun j hj => ?_, below_allocS HB.out _⟩
          by_cases hjk : j = k
          · rw [hjk, HZ.out]; exact Or.inl h4
          · exact HA.out j (by omega)
        case measure => simp [intOf]; omega
      · have h4' : decide ((300 : Int) < (zt.length : Int)) = true := decide_eq_true (by omega)
        by_cases h5 : zt.length ≤ 32768
        · have h5' : decide ((zt.length : Int) ≤ 32768) = true := decide_eq_true (by omega)
          go_wp2_with fail
          go_ret
          exact FewW.mk false _ rfl (fun h => by cases h) (below_allocS HB.out _)
        · have h5' : decide ((zt.length : Int) ≤ 32768) = false := decide_eq_false (by omega)
          go_wp2_with fail
          go_roundw
          case rel =>
            refine ⟨k + 1, by omega, by go_num, fun j hj => ?_, below_allocS HB.out _⟩
            by_cases hjk : j = k
            · rw [hjk, HZ.out]; exact Or.inr (by dsimp only; omega)
            · exact HA.out j (by omega)
          case measure => simp [intOf]; omega
    · obtain rfl : k = L := by omega
      clear hb
      by_cases h30 : k ≤ 20
      · have h30' : decide ((k : Int) ≤ 20) = true := decide_eq_true (by omega)
        by_cases h0 : 0 ≤ s
        · have h0' : decide (0 ≤ s) = true := decide_eq_true h0
          by_cases h1 : s ≤ 16384
          · have h1' : decide (s ≤ 16384) = true := decide_eq_true h1
            go_wp2_with fail
            go_ret
            exact FewW.mk true _ rfl (fun _ => ⟨h30, HA.out, h0, h1⟩) HB.out
          · have h1' : decide (s ≤ 16384) = false := decide_eq_false h1
            go_wp2_with fail
            go_ret
            exact FewW.mk false _ rfl (fun h => by cases h) HB.out
        · have h0' : decide (0 ≤ s) = false := decide_eq_false h0
          go_wp2_with fail
          go_ret
          exact FewW.mk false _ rfl (fun h => by cases h) HB.out
      · have h30' : decide ((k : Int) ≤ 20) = false := decide_eq_false (by omega)
        go_wp2_with fail
        go_ret
        exact FewW.mk false _ rfl (fun h => by cases h) HB.out
/-! The reference. -/
theorem rlog_big {s : Int} {t : List UInt8} {A AR : Option Addr} {n c cR : Nat} (h : 32768 < t.length) (w : World) :
    Calls Tryd.prog 25 #[.agg #[.int .i64 s, .slice AR n cR], .slice A t.length c] w fun e w' => e = .returned (.tuple #[.agg #[.int .i64 s, .slice AR n cR], .int .i64 2]) ∧ Below w.heap.size w w' := by
  have h1 : decide ((32768 : Int) < (t.length : Int)) = true := decide_eq_true (by omega)
  go_enter Tryd.func25, Tryd.ntmps25
  go_wp2_with fail
  refine ret_ct rfl rfl rfl rfl (by simp [go_sem]; rfl) ?_
  exact ⟨rfl, below_allocS (below_allocS (Below.refl _ _) _) _⟩
/-- Texts, all in blocks of K. -/
def TxK (K : Nat → Prop) (w : World) (A : Option Addr) (V : Nat → Option Addr × Nat × List UInt8) (ps : List (List UInt8)) : Prop :=
  TxIs w A V ps ∧ (ps ≠ [] → ∀ x, A = some x → K x.block ∧ ∃ cur, rowAt w x.block = some (cur, 24)) ∧ ∀ i, i < ps.length → ps.getD i [] ≠ [] → ∀ x, (V i).1 = some x → K x.block
theorem TxK.below {K : Nat → Prop} {w w' : World} {A : Option Addr} {V : Nat → Option Addr × Nat × List UInt8} {ps : List (List UInt8)} (h : TxK K w A V ps) (hb : Below w.heap.size w w') : TxK K w' A V ps :=
  ⟨h.1.below hb, fun hn x hx => ⟨(h.2.1 hn x hx).1, let ⟨c, hc⟩ := (h.2.1 hn x hx).2; ⟨c, rowKeep hb hc⟩⟩, h.2.2⟩
theorem TxK.mono {K J : Nat → Prop} {w : World} {A : Option Addr} {V : Nat → Option Addr × Nat × List UInt8} {ps : List (List UInt8)} (h : TxK K w A V ps) (hKJ : ∀ k, k < w.heap.size → K k → J k) : TxK J w A V ps := by
  refine ⟨h.1, fun hn x hx => ⟨?_, (h.2.1 hn x hx).2⟩, fun i hi hn x hx => hKJ _ ?_ (h.2.2 i hi hn x hx)⟩
  · obtain ⟨h1, c, hc⟩ := h.2.1 hn x hx
    exact hKJ _ (rowAt_lt hc) h1
  · have hy := h.1.1.by_ i hi
    rw [h.1.2 i hi] at hy
    obtain ⟨b, o, g1, g2⟩ := hy 0 (List.length_pos_iff.2 hn)
    have hlt : b < w.heap.size := World.block_lt_of_cell? _ _ g2
    rw [hx] at g1
    injection g1 with g1
    have : x.block = b := by rw [g1]
    omega
/-- Another block is written. -/
theorem TxK.keep {K : Nat → Prop} {w w' : World} {A : Option Addr} {V : Nat → Option Addr × Nat × List UInt8} {ps : List (List UInt8)} (h : TxK K w A V ps) (hb : ∀ k, k < w.heap.size → K k → w'.heap[k]? = w.heap[k]?) : TxK K w' A V ps := by
  have hcell : ∀ i, i < ps.length → ∃ b o, A = some ⟨b, o, none⟩ ∧ w'.cell? ⟨b, o + i, none⟩ = some (.slice (V i).1 (V i).2.2.length (V i).2.1) := fun i hi => by
    obtain ⟨b, o, g1, g2⟩ := h.1.1.cell i hi
    have hk := (h.2.1 (by intro e; subst e; simp at hi) _ g1).1
    exact ⟨b, o, g1, (World.cell?_of_block (hb b (World.block_lt_of_cell? _ _ g2) hk)).trans g2⟩
  refine ⟨⟨⟨hcell, fun i hi j hj => ?_, h.1.1.cap, h.1.1.nil⟩, h.1.2⟩, fun hn x hx => ⟨(h.2.1 hn x hx).1, ?_⟩, h.2.2⟩
  · obtain ⟨b, o, g1, g2⟩ := h.1.1.by_ i hi j hj
    have hk := h.2.2 i hi (by rw [← h.1.2 i hi]; intro e; rw [e] at hj; simp at hj) _ g1
    exact ⟨b, o, g1, (World.cell?_of_block (hb b (World.block_lt_of_cell? _ _ g2) hk)).trans g2⟩
  · obtain ⟨h1, c, hc⟩ := h.2.1 hn x hx
    exact ⟨c, (rowAt_of_heap (hb _ (rowAt_lt hc) h1)).trans hc⟩
/-- A block of another kind is written. -/
theorem TxK.off {K : Nat → Prop} {w w' : World} {g : Nat} {A : Option Addr} {V : Nat → Option Addr × Nat × List UInt8} {ps : List (List UInt8)} {c : Array Value} {T : TypeId} (h : TxK K w A V ps) (hr : rowAt w g = some (c, T)) (hT : T ≠ 24) (hn : NoBy w g) (hb : Bt g w w') : TxK K w' A V ps := by
  have ha : ∀ i, i < ps.length → ∀ x, A = some x → x.block ≠ g := fun i hi x hx => by
    obtain ⟨_, cur, hc⟩ := h.2.1 (by intro e; subst e; simp at hi) x hx
    exact rowAt_ne hc hr (fun e => hT e.symm)
  refine ⟨⟨⟨fun i hi => ?_, fun i hi => isBy_off (h.1.1.by_ i hi) hn hb, h.1.1.cap, h.1.1.nil⟩, h.1.2⟩, fun hn2 x hx => ⟨(h.2.1 hn2 x hx).1, ?_⟩, h.2.2⟩
  · obtain ⟨b, o, g1, g2⟩ := h.1.1.cell i hi
    exact ⟨b, o, g1, (hb.cell (World.block_lt_of_cell? _ _ g2) (show b ≠ g from ha i hi ⟨b, o, none⟩ g1)).trans g2⟩
  · obtain ⟨_, cur, hc⟩ := h.2.1 hn2 x hx
    exact ⟨cur, (hb.row (rowAt_lt hc) (ha 0 (List.length_pos_iff.2 hn2) x hx)).trans hc⟩
set_option maxRecDepth 10000 in
set_option maxHeartbeats 2000000 in
theorem rlog_full {s : Int} {t : List UInt8} {A AR : Option Addr} {V : Nat → Option Addr × Nat × List UInt8} {rs : List (List UInt8)} {c cR : Nat} (hs : 0 ≤ s ∧ s ≤ 1099511627776) (h : t.length ≤ 32768) (hr : rs.length ≤ 1000) (hl : ∀ p, p ∈ rs → p.length ≤ 32768) (w : World) (hT : TxIs w AR V rs) (hn : s < ((flatP rs).length : Int) + t.length + 8) :
    Calls Tryd.prog 25 #[.agg #[.int .i64 s, .slice AR rs.length cR], .slice A t.length c] w fun e w' => e = .returned (.tuple #[.agg #[.int .i64 s, .slice AR rs.length cR], .int .i64 7]) ∧ Below w.heap.size w w' := by
  have h1 : decide ((32768 : Int) < (t.length : Int)) = false := decide_eq_false (by omega)
  have hfl := flatP_le 32768 rs hl
  have HFL : Hid ((flatP rs).length ≤ 32776000) := Lib.hid (by
    have : (32768 + 8) * rs.length ≤ (32768 + 8) * 1000 := Nat.mul_le_mul_left _ hr
    omega)
  have HT := Lib.hid hT
  have HL := Lib.hid hl
  have HN := Lib.hid hn
  clear hT hl hn hfl
  have g3 : decide (s < ((flatP rs).length : Int) + t.length + 8) = true := decide_eq_true HN.out
  have hfl6 : (flatP rs).length ≤ 32776000 := HFL.out
  have e1 : IntKind.i64.wrap (((flatP rs).length : Int) + (t.length : Int)) = ((flatP rs).length : Int) + (t.length : Int) := IntWalk.i64_in _ (by omega)
  have e2 : IntKind.i64.wrap (((flatP rs).length : Int) + (t.length : Int) + 8) = ((flatP rs).length : Int) + (t.length : Int) + 8 := IntWalk.i64_in _ (by omega)
  go_enter Tryd.func25, Tryd.ntmps25
  go_upto_region 1 with fail
  obtain ⟨W0, hW0⟩ : ∃ W0, (w.alloc (.cells #[.int .i64 s, .slice AR rs.length cR] 51)).alloc (.cells #[.int .i64 0, .slice none 0 0] 51) = W0 := ⟨_, rfl⟩
  have HB0 : Hid (Below w.heap.size w W0) := Lib.hid (by rw [← hW0]; exact below_allocS (below_allocS (Below.refl _ _) _) _)
  have HR0 : Hid (rowAt W0 w.heap.size = some (#[.int .i64 s, .slice AR rs.length cR], 51)) := Lib.hid (by rw [← hW0]; exact rowPast (rowAt_alloc_at _ _ _ _ rfl))
  have HR1 : Hid (rowAt W0 (w.heap.size + 1) = some (#[.int .i64 0, .slice none 0 0], 51)) := Lib.hid (by rw [← hW0]; exact rowAt_alloc_at _ _ _ _ (World.size_alloc _ _).symm)
  rw [hW0]
  clear hW0
  have HT0 := Lib.hid (HT.out.below HB0.out)
  obtain ⟨g, hg⟩ : ∃ g, w.heap.size = g := ⟨_, rfl⟩
  rw [hg] at HR0 HR1
  rw [hg]
  have HG := Lib.hid hg
  clear hg
  go_upto_region 3 with fail
  refine wp_region_held_drew (S := fun w' : World => Hid (Below W0.heap.size W0 w') ∧ w'.cell? ⟨g, 0, none⟩ = some (.int .i64 s) ∧ w'.cell? ⟨g, 1, none⟩ = some (.slice AR rs.length cR)) (by kernel_rfl) ⟨Lib.hid (Below.refl _ _).drew, by rw [cell_of_rowAt (by rw [rowAt_drew]; exact HR0.out)]; rfl, by rw [cell_of_rowAt (by rw [rowAt_drew]; exact HR0.out)]; rfl⟩ (fun hS => ?_)
  obtain ⟨W7, hW7⟩ : ∃ W7, W0.drew = W7 := ⟨_, rfl⟩
  rw [hW7] at hS
  rw [hW7]
  clear hW7
  refine held_take (i := 0) (by simp only [List.getElem?_toArray, List.getElem?_cons_succ, List.getElem?_cons_zero]; rfl) (by decide +kernel) (by decide +kernel) (by decide +kernel) (by exact fun _ _ _ _ h => h) hS (by rfl) ?_
  apply Exists.intro
  refine ⟨fun w' hSw => ?_, ?_⟩
  · go_simp
    with_reducible rfl
  (try simp only [act_put, act_put_none, List.set_cons_zero, List.set_cons_succ])
  refine held_take (i := 1) (by simp only [List.getElem?_toArray, List.getElem?_cons_succ, List.getElem?_cons_zero]; rfl) (by decide +kernel) (by decide +kernel) (by decide +kernel) (by exact fun _ _ _ _ h => h) hS (by rfl) ?_
  apply Exists.intro
  refine ⟨fun w' hSw => ?_, ?_⟩
  · obtain ⟨_, q1, q2⟩ := hSw
    go_simp
    with_reducible rfl
  (try simp only [act_put, act_put_none, List.set_cons_zero, List.set_cons_succ])
  refine held_take (i := 4) (by simp only [List.getElem?_toArray, List.getElem?_cons_succ, List.getElem?_cons_zero]; rfl) (by decide +kernel) (by decide +kernel) (by decide +kernel) (by exact fun _ _ _ _ h => h) hS (by rfl) ?_
  apply Exists.intro
  refine ⟨fun w' hSw => ?_, ?_⟩
  · go_simp
    with_reducible rfl
  (try simp only [act_put, act_put_none, List.set_cons_zero, List.set_cons_succ])
  refine held_take (i := 5) (by simp only [List.getElem?_toArray, List.getElem?_cons_succ, List.getElem?_cons_zero]; rfl) (by decide +kernel) (by decide +kernel) (by decide +kernel) (by exact fun _ _ _ _ h => h) hS (by rfl) ?_
  apply Exists.intro
  refine ⟨fun w' hSw => ?_, ?_⟩
  · go_simp
    with_reducible rfl
  (try simp only [act_put, act_put_none, List.set_cons_zero, List.set_cons_succ])
  refine held_take (i := 8) (by simp only [List.getElem?_toArray, List.getElem?_cons_succ, List.getElem?_cons_zero]; rfl) (by decide +kernel) (by decide +kernel) (by decide +kernel) (by exact fun _ _ _ _ h => h) hS (by rfl) ?_
  apply Exists.intro
  refine ⟨fun w' hSw => ?_, ?_⟩
  · go_simp
    with_reducible rfl
  (try simp only [act_put, act_put_none, List.set_cons_zero, List.set_cons_succ])
  refine held_take (i := 9) (by simp only [List.getElem?_toArray, List.getElem?_cons_succ, List.getElem?_cons_zero]; rfl) (by decide +kernel) (by decide +kernel) (by decide +kernel) (by exact fun _ _ _ _ h => h) hS (by rfl) ?_
  apply Exists.intro
  refine ⟨fun w' hSw => ?_, ?_⟩
  · obtain ⟨_, q1, q2⟩ := hSw
    go_simp
    with_reducible rfl
  (try simp only [act_put, act_put_none, List.set_cons_zero, List.set_cons_succ])
  refine wpAnyH_ready (rs := [2]) (by decide +kernel) (by simp) ?_
  refine AllReadyH.cons (i := 2) (by simp only [List.getElem?_toArray, List.getElem?_cons_succ, List.getElem?_cons_zero]; rfl) (fun K hK => ?_) ?_
  · go_simp
    go_at_call 10
    refine (rbytes_any AR cR rs.length V rs _ (HT0.out.below hS.1.out) rfl (by omega) HL.out (by have := HFL.out; omega)).mono ?_
    rintro e v1 ⟨va, rfl, hown, hb⟩
    obtain ⟨Aa, ca, rfl, _, _, _, _⟩ := hown.isBy
    have HX := Lib.hid hb
    clear hb hown
    go_simp
    refine hK.out _ _ ⟨Lib.hid (hS.1.out.trans (HX.out.mono hS.1.out.size)), (HX.out.cell (World.block_lt_of_cell? _ _ hS.2.1)).trans hS.2.1, (HX.out.cell (World.block_lt_of_cell? _ _ hS.2.2)).trans hS.2.2⟩ (fun hS2 => ?_)
    clear hS hK K
    have hS := hS2
    clear hS2
    clear HX
    (try simp only [act_put, act_put_none, List.set_cons_zero, List.set_cons_succ])
    refine held_take (i := 3) (by simp only [List.getElem?_toArray, List.getElem?_cons_succ, List.getElem?_cons_zero]; rfl) (by decide +kernel) (by decide +kernel) (by decide +kernel) (by exact fun _ _ _ _ h => h) hS (by rfl) ?_
    apply Exists.intro
    refine ⟨fun w' hSw => ?_, ?_⟩
    · go_simp
      with_reducible rfl
    (try simp only [act_put, act_put_none, List.set_cons_zero, List.set_cons_succ])
    refine held_take (i := 6) (by simp only [List.getElem?_toArray, List.getElem?_cons_succ, List.getElem?_cons_zero]; rfl) (by decide +kernel) (by decide +kernel) (by decide +kernel) (by exact fun _ _ _ _ h => h) hS (by rfl) ?_
    apply Exists.intro
    refine ⟨fun w' hSw => ?_, ?_⟩
    · go_simp
      with_reducible rfl
    (try simp only [act_put, act_put_none, List.set_cons_zero, List.set_cons_succ])
    refine held_take (i := 7) (by simp only [List.getElem?_toArray, List.getElem?_cons_succ, List.getElem?_cons_zero]; rfl) (by decide +kernel) (by decide +kernel) (by decide +kernel) (by exact fun _ _ _ _ h => h) hS (by rfl) ?_
    apply Exists.intro
    refine ⟨fun w' hSw => ?_, ?_⟩
    · go_simp
      with_reducible rfl
    (try simp only [act_put, act_put_none, List.set_cons_zero, List.set_cons_succ])
    refine held_take (i := 10) (by simp only [List.getElem?_toArray, List.getElem?_cons_succ, List.getElem?_cons_zero]; rfl) (by decide +kernel) (by decide +kernel) (by decide +kernel) (by exact fun _ _ _ _ h => h) hS (by rfl) ?_
    apply Exists.intro
    refine ⟨fun w' hSw => ?_, ?_⟩
    · go_simp
      with_reducible rfl
    (try simp only [act_put, act_put_none, List.set_cons_zero, List.set_cons_succ])
    refine wpAnyH_done (by decide +kernel) ?_ _
    have HSF := Lib.hid hS.1.out
    clear hS
    rename World => WF
    have r0 := rowKeep HSF.out HR0.out
    have r1 := rowKeep HSF.out HR1.out
    have hgg : g ≠ g + 1 := by omega
    go_wp2_with fail
    refine ret_ct rfl rfl rfl rfl (by simp [go_sem, r0, r1, hgg]; rfl) ?_
    have hbt : Bt (g + 1) WF (WF.setRow (g + 1) #[.int .i64 s, .slice AR rs.length cR]) := Bt.setRow _ _ _
    refine ⟨rfl, ?_⟩
    have h1 := (Bt.of (p := g + 1) (bthen HB0.out HSF.out)).trans hbt
    exact h1.below (by have := HG.out; omega) (Nat.le_refl _)
  exact AllReadyH.nil
end Go.Proofs.YtfnbcafilbafgaaDoor
