/-
  How long a slice that came in may be.
-/
import Derived.Test.YtfnbcafilbafgaaDoorFrame
import Derived.SizedLaws
namespace Go.Proofs.YtfnbcafilbafgaaDoor
open Go.ChangeShapes Go.WideShapes Go.ChangeAt Go.RowKit
section
variable {H : Type} {enc : TypeId × Value → H} {P : Program} {w : World} {base : Nat} {spare : Nat → Bool} {held : Bool}
theorem len_sized {ts : List TypeId} {ds : List (DataW H)} {t e : TypeId} {d : DataW H} {ps : List MemPlace} {a : Option Addr} {len cap : Nat} (h : (DataW.weightsEach P ts ds).all (· ≤ reachBytes) = true) (j : Nat) (ht : ts[j]? = some t) (hd : ds[j]? = some d)
    (hu : P.underlying t = some (.slice e)) (hb : 0 < P.bytesOf e) (hx : DataW.Trod enc P w base spare held t (.slice a len cap) d ps) : len ≤ 140737488351232 := by
  obtain ⟨fuel, hf⟩ := hx
  rcases DataW.trod_slice hu hf with ⟨hcs, _⟩ | ⟨y, l, c, elems, rest, n, _, hcs, hxe, _, _, _, hlen, _⟩
  · simp [Value.cells] at hcs
    omega
  · simp [Value.cells] at hcs
    obtain ⟨_, rfl, rfl⟩ := hcs
    injection hxe with h1 h2
    subst h1
    have := sized_slice h ht hd hu
    simp only [List.length_map, hlen] at this
    have h3 : len * 1 ≤ (len + rest.length) * P.bytesOf e := Nat.mul_le_mul (Nat.le_add_right _ _) hb
    unfold reachBytes at this
    omega
end
end Go.Proofs.YtfnbcafilbafgaaDoor
