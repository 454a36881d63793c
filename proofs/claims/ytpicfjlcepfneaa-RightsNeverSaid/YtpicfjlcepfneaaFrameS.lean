/-
  A slice of structs of ints that came in.
-/
import Derived.Test.YtpicfjlcepfneaaFrame
import Derived.DataElems
namespace Go.Proofs.Ytpicfjlcepfneaa
open Go.ChangeShapes Go.WideShapes Go.ChangeAt Go.RowKit
section
variable {H : Type} {enc : TypeId × Value → H} {P : Program} {w : World} {base : Nat} {spare : Nat → Bool} {held : Bool}
/-- A slice that came in, of elements all of whose cells are ints: one function from its cells on. -/
theorem open_slice_deep {t e : TypeId} {d C : Nat} {r : Reach} {b0 : Nat} {v : Value} {x : DataW H} {ps : List MemPlace} (ht : P.underlying t = some (.slice e)) (hd : deepInts P d e = true) (hC : P.cellsOf e = C) (hC0 : 0 < C)
    (hv : Value.okWide P w r b0 t v) (h : DataW.Trod enc P w base spare held t v x ps) :
    ∃ (a : Option Addr) (cap L : Nat) (D : Nat → Int), v = .slice a L cap ∧ (L ≤ 9223372036854775807 ∧ (a = none → cap = 0 ∧ L = 0) ∧ L ≤ cap) ∧ (∀ p, p < L * C → -9223372036854775808 ≤ D p ∧ D p ≤ 9223372036854775807) ∧
      ∀ p, p < L * C → ∃ b o, a = some ⟨b, o, none⟩ ∧ w.cell? ⟨b, o + p, none⟩ = some (.int .i64 (D p)) := by
  obtain ⟨a, len, cap, rfl⟩ := okWide_slice ht hv
  obtain ⟨fuel, hf⟩ := h
  rcases DataW.trod_slice ht hf with ⟨hcs, _⟩ | ⟨y, l, c, elems, rest, n, _, hcs, _, hb, hl, hm, hlen, hel, _, _⟩
  · simp [Value.cells] at hcs
    obtain ⟨rfl, rfl, rfl⟩ := hcs
    exact ⟨none, 0, 0, fun _ => 0, rfl, ⟨by omega, fun _ => ⟨rfl, rfl⟩, by omega⟩, fun p hp => by omega, fun p hp => by omega⟩
  · simp [Value.cells] at hcs
    obtain ⟨rfl, rfl, rfl⟩ := hcs
    have key : ∀ p, ∃ m : Int, p < len * C → w.cell? (y.add p) = some (.int .i64 m) ∧ -9223372036854775808 ≤ m ∧ m ≤ 9223372036854775807 := by
      intro p
      by_cases hp : p < len * C
      · have hi : p / C < len := by rw [Nat.div_lt_iff_lt_mul hC0]; exact hp
        have hq := hel (p / C) hi
        rw [hC] at hq
        cases hcs : w.cells? base (y.add (p / C * C)) C with
        | none =>
          rw [hcs] at hq
          have : (elems[p / C]?).isSome = true := by rw [List.getElem?_eq_getElem (by omega)]; rfl
          rw [← hq] at this; cases this
        | some cs =>
          rw [hcs, Option.bind_some, List.getElem?_eq_getElem (by omega)] at hq
          obtain ⟨hl1, hl2, hl3⟩ := World.cells?_some hcs
          have hmod := Nat.mod_lt p hC0
          obtain ⟨m, hm1, hm2⟩ := deepInts_cells d e n cs _ hd hq (p % C) (by omega)
          refine ⟨m, fun _ => ⟨?_, bounds_i64 hm2⟩⟩
          have h1 := hl3 (p % C) (by omega)
          rw [hm1] at h1
          have e1 : (y.add (p / C * C)).add (p % C) = y.add p := by
            have hdm : p / C * C + p % C = p := by rw [Nat.mul_comm]; exact Nat.div_add_mod p C
            rw [Addr.add_add, hdm]
          rw [← e1]
          exact h1
      · exact ⟨0, fun h => absurd h hp⟩
    obtain ⟨D, hD⟩ := Classical.axiomOfChoice key
    refine ⟨some y, cap, len, D, rfl, ⟨by unfold maxLen at hm; omega, (fun h => by cases h), hl⟩, fun p hp => (hD p hp).2, fun p hp => ?_⟩
    have h0 := (hD 0 (by omega)).1
    obtain ⟨b, o, sp⟩ := y
    have hsp : sp = none := by
      have := World.cell?_spot h0
      simpa [Addr.add] using this
    subst hsp
    refine ⟨b, o, rfl, ?_⟩
    have h1 := (hD p hp).1
    rw [Addr.add_lit] at h1
    exact h1
end
end Go.Proofs.Ytpicfjlcepfneaa
