/-
  A slice of bytes that came in.
-/
import Derived.Test.YtaflbcckoiiddaaFrame
import Derived.Test.YtaflbcckoiiddaaBytes
namespace Go.Proofs.Ytaflbcckoiiddaa
open Go.ChangeShapes Go.WideShapes Go.ChangeAt Go.RowKit
section
variable {H : Type} {enc : TypeId × Value → H} {P : Program} {w : World} {base : Nat} {spare : Nat → Bool} {held : Bool}
theorem open_slice_bytes {t e : TypeId} {r : Reach} {b0 : Nat} {v : Value} {x : DataW H} {ps : List MemPlace} (ht : P.underlying t = some (.slice e)) (he : P.underlying e = some (.int .u8)) (hC : P.cellsOf e = 1)
    (hv : Value.okWide P w r b0 t v) (h : DataW.Trod enc P w base spare held t v x ps) :
    ∃ (a : Option Addr) (cap : Nat) (l : List UInt8), v = .slice a l.length cap ∧ (l.length ≤ 9223372036854775807 ∧ (a = none → cap = 0 ∧ l = []) ∧ l.length ≤ cap) ∧ IsBy w a l := by
  obtain ⟨a, len, cap, rfl⟩ := okWide_slice ht hv
  obtain ⟨fuel, hf⟩ := h
  rcases open_ints ht he hC hf with ⟨hcs, _⟩ | ⟨y, l, c, zs, hcs, _, hl, hm, hz, _, hcell, hwz⟩
  · simp [Value.cells] at hcs
    obtain ⟨rfl, rfl, rfl⟩ := hcs
    exact ⟨none, 0, [], rfl, ⟨by simp, fun _ => ⟨rfl, rfl⟩, by simp⟩, IsBy.nil _ _⟩
  · simp [Value.cells] at hcs
    obtain ⟨rfl, rfl, rfl⟩ := hcs
    have hzl : len ≤ zs.length := by rw [hz]; split <;> omega
    have hlen : ((zs.take len).map fun n => UInt8.ofNat n.toNat).length = len := by simp; omega
    refine ⟨some y, cap, (zs.take len).map fun n => UInt8.ofNat n.toNat, by rw [hlen], ⟨by rw [hlen]; unfold maxLen at hm; omega, fun h => (by cases h), by rw [hlen]; exact hl⟩, fun i hi => ?_⟩
    rw [hlen] at hi
    have h0 := hcell 0 (by omega)
    obtain ⟨b, o, sp⟩ := y
    have hsp : sp = none := by
      have := World.cell?_spot h0
      simpa [Addr.add] using this
    subst hsp
    refine ⟨b, o, rfl, ?_⟩
    have h1 := hcell i (by omega)
    rw [Addr.add_lit] at h1
    rw [h1]
    have hw := bounds_u8 (hwz (zs.getD i 0) (by rw [List.getD, List.getElem?_eq_getElem (show i < zs.length by omega)]; exact List.getElem_mem _))
    have e1 : ((zs.take len).map fun n => UInt8.ofNat n.toNat).getD i 0 = UInt8.ofNat (zs.getD i 0).toNat := by
      simp [List.getD, hi, List.getElem?_eq_getElem (show i < zs.length by omega)]
    rw [e1, bc, UInt8.toNat_ofNat']
    congr 2
    rw [Nat.mod_eq_of_lt (by omega)]
    omega
end
end Go.Proofs.Ytaflbcckoiiddaa
