/-
  How many bytes a step that came in may bear.
-/
import Derived.Test.YtfnbcafilbafgaaDoorFrameD
import Derived.SizedLaws
namespace Go.Proofs.YtfnbcafilbafgaaDoor
open Go.ChangeShapes Go.WideShapes Go.ChangeAt Go.RowKit
section
variable {H : Type} {enc : TypeId × Value → H} {P : Program} {w : World} {base : Nat} {spare : Nat → Bool} {held : Bool}
theorem len_of_weights {t e : TypeId} {fuel len cap : Nat} {a : Option Addr} {x : DataW H × List MemPlace} (hu : P.underlying t = some (.slice e)) (hb : 0 < P.bytesOf e) (hf : DataW.trod enc P w base spare held fuel t [.slice a len cap] = some x) (hw : ∀ n ∈ x.1.weights P t, n ≤ reachBytes) : len ≤ 140737488351232 := by
  rcases DataW.trod_slice hu hf with ⟨hcs, _⟩ | ⟨y, l, c, elems, rest, n, _, hcs, hxe, _, _, _, hlen, _⟩
  · simp at hcs
    omega
  · simp at hcs
    obtain ⟨_, rfl, rfl⟩ := hcs
    rw [hxe] at hw
    have := hw ((elems.length + rest.length) * P.bytesOf e) (by simp [DataW.weights, hu])
    have h3 : len * 1 ≤ (elems.length + rest.length) * P.bytesOf e := Nat.mul_le_mul (by omega) hb
    unfold reachBytes at this
    omega
theorem step_sized {e tb u : TypeId} {f0 f1 f2 f3 : Field} {fuel : Nat} {z : Stp} {x : DataW H × List MemPlace} (hs : P.underlying e = some (.struct #[f0, f1, f2, f3])) (h3 : f3.offset = 3 ∧ f3.type = tb) (htb : P.underlying tb = some (.slice u)) (hu : 0 < P.bytesOf u) (cb : P.cellsOf tb = 1)
    (h : DataW.trod enc P w base spare held fuel e z.cells = some x) (hw : ∀ n ∈ x.1.weights P e, n ≤ reachBytes) : z.t.length ≤ 140737488351232 := by
  obtain ⟨xs, n, _, hxe, hl, hxl, hg⟩ := DataW.trod_struct hs h
  have q3 := hg 3 f3 rfl
  obtain ⟨y3, e3⟩ : ∃ y, xs[3]? = some y := ⟨_, List.getElem?_eq_getElem (by rw [hxl]; show 3 < 4; omega)⟩
  rw [h3.1, h3.2, cb, e3] at q3
  refine len_of_weights (x := y3) htb hu (by simpa [Stp.cells] using q3) (fun m hm => hw m ?_)
  rw [hxe]
  simp only [DataW.weights, hs]
  refine DataW.weights_mem_each (j := 3) (t := f3.type) (d := y3.1) rfl (by rw [List.getElem?_map, e3]; rfl) m ?_
  rw [h3.2]
  exact hm
theorem weightsAll_mem {e : TypeId} : ∀ {l : List (DataW H)} {d : DataW H} {n : Nat}, d ∈ l → n ∈ d.weights P e → n ∈ DataW.weightsAll P e l
  | d0 :: l, d, n, hd, hn => by
    simp only [DataW.weightsAll, List.mem_append]
    rcases List.mem_cons.1 hd with rfl | h
    · exact Or.inl hn
    · exact Or.inr (weightsAll_mem h hn)
theorem steps_sized {ts : List TypeId} {ds : List (DataW H)} {t e tb u : TypeId} {f0 f1 f2 f3 : Field} {d : DataW H} {ps : List MemPlace} {a : Option Addr} {L cap : Nat} {E : Nat → Stp} (hz : (DataW.weightsEach P ts ds).all (· ≤ reachBytes) = true) (j : Nat) (ht : ts[j]? = some t) (hd : ds[j]? = some d)
    (hut : P.underlying t = some (.slice e)) (hs : P.underlying e = some (.struct #[f0, f1, f2, f3])) (h3 : f3.offset = 3 ∧ f3.type = tb) (htb : P.underlying tb = some (.slice u)) (hu : 0 < P.bytesOf u) (ce : P.cellsOf e = 4) (cb : P.cellsOf tb = 1)
    (hx : DataW.Trod enc P w base spare held t (.slice a L cap) d ps) (hE : Steps w a L E) : ∀ i, i < L → (E i).t.length ≤ 140737488351232 := by
  intro i hi
  obtain ⟨fuel, hf⟩ := hx
  rcases DataW.trod_slice hut hf with ⟨hcs, _⟩ | ⟨y, l, c, elems, rest, n, _, hcs, hxe, _, _, _, hlen, hel, _, _⟩
  · simp [Value.cells] at hcs
    omega
  · simp [Value.cells] at hcs
    obtain ⟨rfl, rfl, rfl⟩ := hcs
    injection hxe with h1 h2
    have hq := hel i hi
    rw [ce] at hq
    cases hcc : w.cells? base (y.add (i * 4)) 4 with
    | none =>
      rw [hcc] at hq
      have : (elems[i]?).isSome = true := by rw [List.getElem?_eq_getElem (by omega)]; rfl
      rw [← hq] at this; cases this
    | some cs =>
      rw [hcc, Option.bind_some, List.getElem?_eq_getElem (by omega)] at hq
      obtain ⟨hl1, hl2, hl3⟩ := World.cells?_some hcc
      obtain ⟨b, o, g1, g2⟩ := hE.cell i hi
      injection g1 with g1
      subst g1
      have hce : cs = (E i).cells := by
        refine List.ext_getElem? fun k => ?_
        by_cases hk : k < 4
        · rw [← hl3 k hk, ← g2 k hk]
          have e2 : ((⟨b, o, none⟩ : Addr).add (i * 4)).add k = ⟨b, o + i * 4 + k, none⟩ := by rw [Addr.add_lit, Addr.add_lit]
          rw [e2]
        · rw [List.getElem?_eq_none (by omega), List.getElem?_eq_none (by simp [Stp.cells]; omega)]
      rw [hce] at hq
      refine step_sized hs h3 htb hu cb hq (fun m hm => ?_)
      have hmem : m ∈ DataW.weightsEach P ts ds := by
        refine DataW.weights_mem_each ht hd m ?_
        rw [h1]
        simp only [DataW.weights, hut, List.mem_cons, List.mem_append]
        exact Or.inr (Or.inl (weightsAll_mem (List.mem_map.2 ⟨_, List.getElem_mem _, rfl⟩) hm))
      have := List.all_eq_true.1 hz m hmem
      simpa using this
end
end Go.Proofs.YtfnbcafilbafgaaDoor
