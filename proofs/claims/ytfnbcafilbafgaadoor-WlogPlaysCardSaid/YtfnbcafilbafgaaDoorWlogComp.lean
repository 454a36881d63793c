/-
  Layer 12 (wlog): the reference's log, the last record alone.
-/
import Derived.Test.YtfnbcafilbafgaaDoorWlogRlog
namespace Go.Proofs.YtfnbcafilbafgaaDoor
open Go.RowKit
set_option linter.unusedSimpArgs false
set_option linter.unusedVariables false
attribute [local go_sem] rowCells rowAt_alloc rowAt_drew rowAt_setRow rowAt_setCell setRow_alloc load_rlog store_rlog cut2l splice2l load_do12 store_do12 cut4l splice4l
attribute [local go_sem ↓] xstore_rlog xload_rlog xalloc_rlog xload_do12 xstore_do12 xalloc_do12
theorem texts_slice_from {ops : Array Oper} {rest : List Oper} {o : Oper} {a : Act} {w : World} {Q : Exit → Act → World → Prop} (hgd : o.guard = none) (x y : Operand)
    (ho : o.op = .slice 22 x (some y) none none) (A : Option Addr) (n c k : Nat) (hx : a.eval x = .slice A n c) (hy : a.eval y = .int .i64 k) (hk : k ≤ n) (hkc : k < c)
    (h : wpList Tryd.prog ops Q rest (a.put o.dst (.slice (A.map (·.add k)) (n - k) (c - k))) w) : wpList Tryd.prog ops Q (o :: rest) a w := by
  refine wpList_plain hgd fun K hK => ?_
  obtain ⟨i0, hi, _, hz1, _⟩ := info_text
  unfold Oper.wp execOp
  have hne : ¬ c = k := by omega
  simp [ho, hx, hy, Instr.sliceAt, Instr.slice, Sem.run_bind, run_underlying Tryd.underlying22, Instr.sliceBounds, Instr.sliceBound, asIntOf, hk, sizeOf, typeInfo, hi, hz1, hne]
  exact hK _ _ h
theorem lastT_mem {rs : List (List UInt8)} (h : rs ≠ []) : lastT rs ∈ rs := by
  have hpos := List.length_pos_iff.2 h
  simp [lastT, List.getD, List.getElem?_eq_getElem (show rs.length - 1 < rs.length by omega)]
theorem TxK.last {K : Nat → Prop} {w : World} {A : Option Addr} {V : Nat → Option Addr × Nat × List UInt8} {rs : List (List UInt8)} {m : Nat} (h : TxK K w A V rs) (hm : rs.length = m + 1) : TxK K w (A.map (·.add m)) (fun _ => V m) [lastT rs] := by
  have e : lastT rs = rs.getD m [] := by unfold lastT; rw [hm]; rfl
  obtain ⟨b, o, g1, g2⟩ := h.1.1.cell m (by omega)
  subst g1
  refine ⟨⟨⟨fun i hi => ⟨b, o + m, by simp [Addr.add_lit], ?_⟩, fun i hi => h.1.1.by_ m (by omega), fun i hi => h.1.1.cap m (by omega), fun i hi => h.1.1.nil m (by omega)⟩, fun i hi => ?_⟩, fun _ x hx => ?_, fun i hi hn x hx => ?_⟩
  · obtain rfl : i = 0 := by simpa using hi
    exact g2
  · obtain rfl : i = 0 := by simpa using hi
    rw [h.1.2 m (by omega), e]; rfl
  · have h1 := h.2.1 (by intro e2; subst e2; simp at hm) _ rfl
    simp [Addr.add_lit] at hx
    subst hx
    exact h1
  · obtain rfl : i = 0 := by simpa using hi
    refine h.2.2 m (by omega) ?_ x hx
    rw [← e]
    exact hn
theorem rcompact_none {s : Int} {AR : Option Addr} {cR : Nat} (w : World) :
    Calls Tryd.prog 26 #[.agg #[.int .i64 s, .slice AR 0 cR]] w fun e w' => e = .returned (.agg #[.int .i64 s, .slice AR 0 cR]) ∧ Below w.heap.size w w' := by
  go_enter Tryd.func26, Tryd.ntmps26
  go_wp2_with fail
  refine ret_c rfl rfl rfl (by simp [go_sem]; rfl) ?_
  exact ⟨rfl, below_allocS (below_allocS (Below.refl _ _) _) _⟩
set_option maxHeartbeats 1000000 in
theorem rcompact_ok {K : Nat → Prop} {s : Int} {AR : Option Addr} {cR : Nat} {V : Nat → Option Addr × Nat × List UInt8} {rs : List (List UInt8)} (w : World) (hT : TxK K w AR V rs) (hcR : rs.length ≤ cR) (hne : rs ≠ []) (hr : rs.length ≤ 1000) :
    Calls Tryd.prog 26 #[.agg #[.int .i64 s, .slice AR rs.length cR]] w fun e w' => ∃ A' c' V', e = .returned (.agg #[.int .i64 s, .slice A' 1 c']) ∧ TxK K w' A' V' [lastT rs] ∧ 1 ≤ c' ∧ (A' = none → c' = 0) ∧ Below w.heap.size w w' := by
  have hpos := List.length_pos_iff.2 hne
  obtain ⟨m, hm⟩ : ∃ m, rs.length = m + 1 := ⟨rs.length - 1, by omega⟩
  have HL := Lib.hid (hT.last hm)
  obtain ⟨b, o, g1, _⟩ := hT.1.1.cell 0 (by omega)
  subst g1
  have HL' : Hid (TxK K w (some ⟨b, o + m, none⟩) (fun _ => V m) [lastT rs]) := Lib.hid (by have := HL.out; simpa [Addr.add_lit] using this)
  rw [hm]
  have h1 : decide ((0 : Int) < (m : Int) + 1) = true := decide_eq_true (by omega)
  have hm2 : m ≤ 1000 := by omega
  have hmc : m < cR := by omega
  clear hT hpos hne hr
  go_enter Tryd.func26, Tryd.ntmps26
  go_wp2_with (refine texts_slice_from rfl _ _ rfl (some ⟨b, o, none⟩) (m + 1) cR m rfl rfl (by omega) hmc ?_)
  refine ret_c rfl rfl rfl (by simp [go_sem]; rfl) ?_
  have hb := below_allocS (below_allocS (Below.refl w.heap.size w) (.cells #[.int .i64 s, .slice (some ⟨b, o + m, none⟩) 1 (cR - m)] 51)) (.cells #[.int .i64 s, .slice (some ⟨b, o + m, none⟩) 1 (cR - m)] 51)
  exact ⟨_, _, _, rfl, HL'.out.below hb, by omega, (fun h => by cases h), hb⟩
end Go.Proofs.YtfnbcafilbafgaaDoor
