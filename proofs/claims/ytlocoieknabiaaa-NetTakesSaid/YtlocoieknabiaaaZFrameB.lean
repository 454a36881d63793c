/-
  A slice of bytes that came in.
-/
import Derived.Test.YtlocoieknabiaaaZGE
import Derived.Test.YtlocoieknabiaaaZGD
import Derived.Deep.Slices
namespace Go.Proofs.Ytlocoieknabiaaa
set_option maxRecDepth 20000
open Go.ChangeShapes Go.WideShapes Go.ChangeAt Go.RowKit
section
variable {H : Type} {enc : TypeId × Value → H} {P : Program} {w : World} {base : Nat} {spare : Nat → Bool} {held : Bool}
theorem trod_bytes {t e : TypeId} {fuel : Nat} {v : Value} {x : DataW H × List MemPlace} (ht : P.underlying t = some (.slice e)) (he : P.underlying e = some (.int .u8)) (hC : P.cellsOf e = 1) (hf : DataW.trod enc P w base spare held fuel t [v] = some x) :
    ∃ (a : Option Addr) (cap : Nat) (l : List UInt8), v = .slice a l.length cap ∧ (l.length ≤ 9223372036854775807 ∧ (a = none → cap = 0 ∧ l = []) ∧ l.length ≤ cap) ∧ IsBy w a l := by
  rcases open_ints ht he hC hf with ⟨hcs, _⟩ | ⟨y, len, cap, zs, hcs, _, hl, hm, hz, _, hcell, hwz⟩
  · injection hcs with hcs
    subst hcs
    exact ⟨none, 0, [], rfl, ⟨by simp, fun _ => ⟨rfl, rfl⟩, by simp⟩, IsBy.nil _ _⟩
  · injection hcs with hcs
    subst hcs
    have hzl : len ≤ zs.length := by rw [hz]; split <;> omega
    have hlen : ((zs.take len).map fun n => UInt8.ofNat n.toNat).length = len := by simp; omega
    refine ⟨some y, cap, (zs.take len).map fun n => UInt8.ofNat n.toNat, by rw [hlen], ⟨by rw [hlen]; unfold maxLen at hm; omega, fun h => (by cases h), by rw [hlen]; exact hl⟩, fun i hi => ?_⟩
    rw [hlen] at hi
    have h0 := hcell 0 (by omega)
    obtain ⟨b, o, sp⟩ := y
    have hsp : sp = none := by
      have := World.cell?_spot h0
      simpa [Addr.add] using this
    subst hsp
    refine ⟨b, o, rfl, ?_⟩
    have h1 := hcell i (by omega)
    rw [Addr.add_lit] at h1
    rw [h1]
    have hw := bounds_u8 (hwz (zs.getD i 0) (by rw [List.getD, List.getElem?_eq_getElem (show i < zs.length by omega)]; exact List.getElem_mem _))
    have e1 : ((zs.take len).map fun n => UInt8.ofNat n.toNat).getD i 0 = UInt8.ofNat (zs.getD i 0).toNat := by
      simp [List.getD, hi, List.getElem?_eq_getElem (show i < zs.length by omega)]
    rw [e1, bc, UInt8.toNat_ofNat']
    congr 2
    rw [Nat.mod_eq_of_lt (by omega)]
    omega
/-- What a slice of slices of bytes leads to. -/
structure Texts (w : World) (A : Option Addr) (L : Nat) (V : Nat → Option Addr × Nat × List UInt8) : Prop where
  cell : ∀ i, i < L → ∃ b o, A = some ⟨b, o, none⟩ ∧ w.cell? ⟨b, o + i, none⟩ = some (.slice (V i).1 (V i).2.2.length (V i).2.1)
  by_ : ∀ i, i < L → IsBy w (V i).1 (V i).2.2
  cap : ∀ i, i < L → (V i).2.2.length ≤ (V i).2.1
  nil : ∀ i, i < L → (V i).1 = none → (V i).2.1 = 0
theorem open_slice_texts {t e u : TypeId} {r : Reach} {b0 : Nat} {v : Value} {x : DataW H} {ps : List MemPlace} (ht : P.underlying t = some (.slice e)) (he : P.underlying e = some (.slice u)) (hu : P.underlying u = some (.int .u8)) (hC : P.cellsOf e = 1) (hC2 : P.cellsOf u = 1)
    (hv : Value.okWide P w r b0 t v) (h : DataW.Trod enc P w base spare held t v x ps) :
    ∃ (a : Option Addr) (cap L : Nat) (V : Nat → Option Addr × Nat × List UInt8), v = .slice a L cap ∧ (L ≤ 9223372036854775807 ∧ (a = none → cap = 0 ∧ L = 0) ∧ L ≤ cap) ∧ Texts w a L V := by
  obtain ⟨a, len, cap, rfl⟩ := okWide_slice ht hv
  obtain ⟨fuel, hf⟩ := h
  rcases Go.Deep.open_slice1 ht hC hf with ⟨hcs, _⟩ | ⟨y, l, c, m, n, V, D, Pl, hcs, hb, hl, hm, hmm, _, hx⟩
  · simp [Value.cells] at hcs
    obtain ⟨rfl, rfl, rfl⟩ := hcs
    exact ⟨none, 0, 0, fun _ => (none, 0, []), rfl, ⟨by omega, fun _ => ⟨rfl, rfl⟩, by omega⟩, ⟨fun i hi => absurd hi (Nat.not_lt_zero _), fun i hi => absurd hi (Nat.not_lt_zero _), fun i hi => absurd hi (Nat.not_lt_zero _), fun i hi => absurd hi (Nat.not_lt_zero _)⟩⟩
  · simp [Value.cells] at hcs
    obtain ⟨rfl, rfl, rfl⟩ := hcs
    have hml : len ≤ m := by rw [hmm]; split <;> omega
    have key : ∀ i, ∃ z : Option Addr × Nat × List UInt8, i < len → V i = .slice z.1 z.2.2.length z.2.1 ∧ IsBy w z.1 z.2.2 ∧ z.2.2.length ≤ z.2.1 ∧ (z.1 = none → z.2.1 = 0) := by
      intro i
      by_cases hi : i < len
      · obtain ⟨a2, c2, l2, h1, h2, h3⟩ := trod_bytes he hu hC2 (hx i (by omega)).2
        exact ⟨(a2, c2, l2), fun _ => ⟨h1, h3, h2.2.2, fun h => (h2.2.1 h).1⟩⟩
      · exact ⟨(none, 0, []), fun h => absurd h hi⟩
    refine ⟨some y, cap, len, fun i => (key i).choose, rfl, ⟨by unfold maxLen at hm; omega, fun h => (by cases h), hl⟩, ⟨fun i hi => ?_, fun i hi => ((key i).choose_spec hi).2.1, fun i hi => ((key i).choose_spec hi).2.2.1, fun i hi => ((key i).choose_spec hi).2.2.2⟩⟩
    have h0 := (hx 0 (by omega)).1
    obtain ⟨b, o, sp⟩ := y
    have hsp : sp = none := by
      have := World.cell?_spot h0
      simpa [Addr.add] using this
    subst hsp
    have h1 := (hx i (by omega)).1
    rw [Addr.add_lit] at h1
    exact ⟨b, o, rfl, h1.trans (congrArg some ((key i).choose_spec hi).1)⟩
theorem open_slice_bytes {t e : TypeId} {r : Reach} {b0 : Nat} {v : Value} {x : DataW H} {ps : List MemPlace} (ht : P.underlying t = some (.slice e)) (he : P.underlying e = some (.int .u8)) (hC : P.cellsOf e = 1)
    (hv : Value.okWide P w r b0 t v) (h : DataW.Trod enc P w base spare held t v x ps) :
    ∃ (a : Option Addr) (cap : Nat) (l : List UInt8), v = .slice a l.length cap ∧ (l.length ≤ 9223372036854775807 ∧ (a = none → cap = 0 ∧ l = []) ∧ l.length ≤ cap) ∧ IsBy w a l := by
  obtain ⟨a, len, cap, rfl⟩ := okWide_slice ht hv
  obtain ⟨fuel, hf⟩ := h
  rcases open_ints ht he hC hf with ⟨hcs, _⟩ | ⟨y, l, c, zs, hcs, _, hl, hm, hz, _, hcell, hwz⟩
  · simp [Value.cells] at hcs
    obtain ⟨rfl, rfl, rfl⟩ := hcs
    exact ⟨none, 0, [], rfl, ⟨by simp, fun _ => ⟨rfl, rfl⟩, by simp⟩, IsBy.nil _ _⟩
  · simp [Value.cells] at hcs
    obtain ⟨rfl, rfl, rfl⟩ := hcs
    have hzl : len ≤ zs.length := by rw [hz]; split <;> omega
    have hlen : ((zs.take len).map fun n => UInt8.ofNat n.toNat).length = len := by simp; omega
    refine ⟨some y, cap, (zs.take len).map fun n => UInt8.ofNat n.toNat, by rw [hlen], ⟨by rw [hlen]; unfold maxLen at hm; omega, fun h => (by cases h), by rw [hlen]; exact hl⟩, fun i hi => ?_⟩
    rw [hlen] at hi
    have h0 := hcell 0 (by omega)
    obtain ⟨b, o, sp⟩ := y
    have hsp : sp = none := by
      have := World.cell?_spot h0
      simpa [Addr.add] using this
    subst hsp
    refine ⟨b, o, rfl, ?_⟩
    have h1 := hcell i (by omega)
    rw [Addr.add_lit] at h1
    rw [h1]
    have hw := bounds_u8 (hwz (zs.getD i 0) (by rw [List.getD, List.getElem?_eq_getElem (show i < zs.length by omega)]; exact List.getElem_mem _))
    have e1 : ((zs.take len).map fun n => UInt8.ofNat n.toNat).getD i 0 = UInt8.ofNat (zs.getD i 0).toNat := by
      simp [List.getD, hi, List.getElem?_eq_getElem (show i < zs.length by omega)]
    rw [e1, bc, UInt8.toNat_ofNat']
    congr 2
    rw [Nat.mod_eq_of_lt (by omega)]
    omega
end
end Go.Proofs.Ytlocoieknabiaaa
