/-
  Steps of a disk that came in: a slice of structs of three ints and bytes.
-/
import Derived.Test.YtfnbcafilbafgaaDoorFrameB
import Derived.DataElems
namespace Go.Proofs.YtfnbcafilbafgaaDoor
open Go.ChangeShapes Go.WideShapes Go.ChangeAt Go.RowKit
/-- A step: Verb, N, M, and where its bytes lie. -/
structure Stp where
  v : Int
  n : Int
  m : Int
  a : Option Addr
  c : Nat
  t : List UInt8
def Stp.cells (e : Stp) : List Value := [.int .i64 e.v, .int .i64 e.n, .int .i64 e.m, .slice e.a e.t.length e.c]
structure Steps (w : World) (A : Option Addr) (L : Nat) (E : Nat → Stp) : Prop where
  cell : ∀ i, i < L → ∃ b o, A = some ⟨b, o, none⟩ ∧ ∀ j, j < 4 → w.cell? ⟨b, o + i * 4 + j, none⟩ = (E i).cells[j]?
  by_ : ∀ i, i < L → IsBy w (E i).a (E i).t
  cap : ∀ i, i < L → (E i).t.length ≤ (E i).c
  nil : ∀ i, i < L → (E i).a = none → (E i).c = 0
section
variable {H : Type} {enc : TypeId × Value → H} {P : Program} {w : World} {base : Nat} {spare : Nat → Bool} {held : Bool}
theorem trod_step {e ti tb u : TypeId} {f0 f1 f2 f3 : Field} {fuel : Nat} {cs : List Value} {x : DataW H × List MemPlace} (hs : P.underlying e = some (.struct #[f0, f1, f2, f3])) (h0 : f0.offset = 0 ∧ f0.type = ti) (h1 : f1.offset = 1 ∧ f1.type = ti) (h2 : f2.offset = 2 ∧ f2.type = ti) (h3 : f3.offset = 3 ∧ f3.type = tb)
    (hti : P.underlying ti = some (.int .i64)) (htb : P.underlying tb = some (.slice u)) (hu : P.underlying u = some (.int .u8)) (ci : P.cellsOf ti = 1) (cb : P.cellsOf tb = 1) (cu : P.cellsOf u = 1) (hc : cs.length = 4) (h : DataW.trod enc P w base spare held fuel e cs = some x) :
    ∃ z : Stp, cs = z.cells ∧ IsBy w z.a z.t ∧ z.t.length ≤ z.c ∧ (z.a = none → z.c = 0) := by
  obtain ⟨xs, n, _, _, hl, hxl, hg⟩ := DataW.trod_struct hs h
  match cs, hc with
  | [a, b, c, d], _ =>
    have q0 := hg 0 f0 rfl
    have q1 := hg 1 f1 rfl
    have q2 := hg 2 f2 rfl
    have q3 := hg 3 f3 rfl
    have hx : ∀ k, k < 4 → ∃ y, xs[k]? = some y := fun k hk => ⟨_, List.getElem?_eq_getElem (by rw [hxl]; exact hk)⟩
    obtain ⟨y0, e0⟩ := hx 0 (by decide)
    obtain ⟨y1, e1⟩ := hx 1 (by decide)
    obtain ⟨y2, e2⟩ := hx 2 (by decide)
    obtain ⟨y3, e3⟩ := hx 3 (by decide)
    rw [h0.1, h0.2, ci, e0] at q0
    rw [h1.1, h1.2, ci, e1] at q1
    rw [h2.1, h2.2, ci, e2] at q2
    rw [h3.1, h3.2, cb, e3] at q3
    obtain ⟨n0, k0, _, _⟩ := DataW.trod_int hti q0
    obtain ⟨n1, k1, _, _⟩ := DataW.trod_int hti q1
    obtain ⟨n2, k2, _, _⟩ := DataW.trod_int hti q2
    obtain ⟨a3, c3, l3, k3, g3, i3⟩ := trod_bytes htb hu cu q3
    simp at k0 k1 k2
    subst k0 k1 k2 k3
    exact ⟨⟨n0, n1, n2, a3, c3, l3⟩, rfl, i3, g3.2.2, fun h => (g3.2.1 h).1⟩
theorem open_slice_steps {t e ti tb u : TypeId} {f0 f1 f2 f3 : Field} {r : Reach} {b0 : Nat} {v : Value} {x : DataW H} {ps : List MemPlace} (ht : P.underlying t = some (.slice e)) (hs : P.underlying e = some (.struct #[f0, f1, f2, f3])) (h0 : f0.offset = 0 ∧ f0.type = ti) (h1 : f1.offset = 1 ∧ f1.type = ti) (h2 : f2.offset = 2 ∧ f2.type = ti) (h3 : f3.offset = 3 ∧ f3.type = tb)
    (hti : P.underlying ti = some (.int .i64)) (htb : P.underlying tb = some (.slice u)) (hu : P.underlying u = some (.int .u8)) (ce : P.cellsOf e = 4) (ci : P.cellsOf ti = 1) (cb : P.cellsOf tb = 1) (cu : P.cellsOf u = 1)
    (hv : Value.okWide P w r b0 t v) (h : DataW.Trod enc P w base spare held t v x ps) :
    ∃ (a : Option Addr) (cap L : Nat) (E : Nat → Stp), v = .slice a L cap ∧ (L ≤ 9223372036854775807 ∧ (a = none → cap = 0 ∧ L = 0) ∧ L ≤ cap) ∧ Steps w a L E := by
  obtain ⟨a, len, cap, rfl⟩ := okWide_slice ht hv
  obtain ⟨fuel, hf⟩ := h
  rcases Deep.open_slice ht hf with ⟨hcs, _⟩ | ⟨y, l, c, m, n, D, Pl, hcs, hb, hl, hm, hmm, _, hx⟩
  · simp [Value.cells] at hcs
    obtain ⟨rfl, rfl, rfl⟩ := hcs
    exact ⟨none, 0, 0, fun _ => ⟨0, 0, 0, none, 0, []⟩, rfl, ⟨by omega, fun _ => ⟨rfl, rfl⟩, by omega⟩, ⟨fun i hi => absurd hi (Nat.not_lt_zero _), fun i hi => absurd hi (Nat.not_lt_zero _), fun i hi => absurd hi (Nat.not_lt_zero _), fun i hi => absurd hi (Nat.not_lt_zero _)⟩⟩
  · simp [Value.cells] at hcs
    obtain ⟨rfl, rfl, rfl⟩ := hcs
    have hml : len ≤ m := by rw [hmm]; split <;> omega
    have key : ∀ i, ∃ z : Stp, i < len → (∀ j, j < 4 → w.cell? ((y.add (i * 4)).add j) = z.cells[j]?) ∧ IsBy w z.a z.t ∧ z.t.length ≤ z.c ∧ (z.a = none → z.c = 0) := by
      intro i
      by_cases hi : i < len
      · obtain ⟨cs', g1, g2⟩ := hx i (by omega)
        rw [ce] at g1
        obtain ⟨_, hlen, hcell⟩ := World.cells?_some g1
        obtain ⟨z, rfl, i1, i2, i3⟩ := trod_step hs h0 h1 h2 h3 hti htb hu ci cb cu hlen g2
        exact ⟨z, fun _ => ⟨hcell, i1, i2, i3⟩⟩
      · exact ⟨⟨0, 0, 0, none, 0, []⟩, fun h => absurd h hi⟩
    refine ⟨some y, cap, len, fun i => (key i).choose, rfl, ⟨by unfold maxLen at hm; omega, fun h => (by cases h), hl⟩, ⟨fun i hi => ?_, fun i hi => ((key i).choose_spec hi).2.1, fun i hi => ((key i).choose_spec hi).2.2.1, fun i hi => ((key i).choose_spec hi).2.2.2⟩⟩
    have h00 := ((key 0).choose_spec (by omega)).1 0 (by decide)
    obtain ⟨b, o, sp⟩ := y
    have hsp : sp = none := by
      have h01 : w.cell? (((⟨b, o, sp⟩ : Addr).add (0 * 4)).add 0) = some _ := h00
      have := World.cell?_spot h01
      simpa [Addr.add] using this
    subst hsp
    refine ⟨b, o, rfl, fun j hj => ?_⟩
    have h1' := ((key i).choose_spec hi).1 j hj
    have e : ((⟨b, o, none⟩ : Addr).add (i * 4)).add j = ⟨b, o + i * 4 + j, none⟩ := by rw [Addr.add_lit, Addr.add_lit]
    exact (congrArg w.cell? e).symm.trans h1'
end
set_option linter.unusedSimpArgs false
open Go.RowKit
theorem load_cells {P : Program} {w : World} {b o n : Nat} {D : Array Value} {ty : TypeId} {d : TypeDesc} (hu : P.underlying ty = some d) (hd : isAggDesc d = true) (hi : (P.info? ty).map (·.size) = some n) (hn : D.size = n)
    (h : ∀ j, j < n → w.cell? ⟨b, o + j, none⟩ = D[j]?) : loadAgg P w ty (.pointer (some ⟨b, o, none⟩)) = .ok (.value (.agg D)) w := by
  have hl : (loadCells ⟨b, o, none⟩ n).run P w = .ok D w := by
    rw [run_loadCells w ⟨b, o, none⟩ n (fun j => D.getD j undef) (fun j hj => by
      rw [Addr.add_lit, h j hj, Array.getElem?_eq_getElem (by omega)]
      simp [Array.getD, show j < D.size by omega])]
    congr 1
    refine Array.ext (by simp [hn]) fun j h1 h2 => ?_
    simp [Array.getD, h2]
  cases hq : P.info? ty with
  | none => simp [hq] at hi
  | some i =>
    have hs : i.size = n := by simpa [hq] using hi
    have hagg : (isAgg ty).run P w = .ok true w := by
      unfold isAgg
      rw [Sem.run_bind, run_underlying hu w]
      cases d <;> simp_all [isAggDesc]
    have hv : (loadVar ty ⟨b, o, none⟩).run P w = .ok (.agg D) w := by
      simp [loadVar, Sem.run_bind, hagg, sizeOf, typeInfo, hq, hs, hl]
    unfold loadAgg
    simp [Instr.loadAt, Instr.sureAddr, hv]
theorem Steps.below {w w' : World} {A : Option Addr} {L : Nat} {E : Nat → Stp} (h : Steps w A L E) (hb : Below w.heap.size w w') : Steps w' A L E :=
  ⟨fun i hi => by
    obtain ⟨b, o, h1, h2⟩ := h.cell i hi
    refine ⟨b, o, h1, fun j hj => ?_⟩
    have h3 := h2 j hj
    have hs : (E i).cells[j]? = some ((E i).cells[j]'(by simp [Stp.cells]; omega)) := List.getElem?_eq_getElem _
    rw [hs] at h3 ⊢
    exact (hb.cell (World.block_lt_of_cell? _ _ h3)).trans h3, fun i hi => (h.by_ i hi).below hb, h.cap, h.nil⟩
end Go.Proofs.YtfnbcafilbafgaaDoor
