/-
  A slice of messages that came in.
-/
import Derived.Test.YtlocoieknabiaaaGreatZGE
import Derived.Test.YtlocoieknabiaaaGreatZMsgs
namespace Go.Proofs.YtlocoieknabiaaaGreat
set_option maxRecDepth 20000
open Go.ChangeShapes Go.WideShapes Go.ChangeAt Go.RowKit
section
variable {H : Type} {enc : TypeId × Value → H} {P : Program} {w : World} {base : Nat} {spare : Nat → Bool} {held : Bool}
instance : Inhabited Msg := ⟨⟨0, 0, 0, 0, 0, false, none, 0, 0, fun _ => default, 0, [], [], 0, 0⟩⟩
theorem open_msgs {tm : TypeId} {m e t ts ti tb tc tl th eh tp : TypeId} {dc dl dh : Nat} {f0 f1 f2 f3 f4 f5 g0 g1 g2 g3 g4 g5 g6 g7 p0 p1 p2 p3 p4 : Field} {r : Reach} {bb : Nat} {v : Value} {x : DataW H} {ps : List MemPlace} (htm : P.underlying tm = some (.slice m)) (cm : P.cellsOf m = 12)
    (hm : P.underlying m = some (.struct #[g0, g1, g2, g3, g4, g5, g6, g7])) (hp : P.underlying tp = some (.struct #[p0, p1, p2, p3, p4]))
    (k0 : g0.offset = 0 ∧ g0.type = ti) (k1 : g1.offset = 1 ∧ g1.type = ti) (k2 : g2.offset = 2 ∧ g2.type = ti) (k3 : g3.offset = 3 ∧ g3.type = ti) (k4 : g4.offset = 4 ∧ g4.type = ti) (k5 : g5.offset = 5 ∧ g5.type = tb) (k6 : g6.offset = 6 ∧ g6.type = t) (k7 : g7.offset = 7 ∧ g7.type = tp)
    (r0 : p0.offset = 0 ∧ p0.type = ti) (r1 : p1.offset = 1 ∧ p1.type = ts) (r2 : p2.offset = 2 ∧ p2.type = ts) (r3 : p3.offset = 3 ∧ p3.type = ti) (r4 : p4.offset = 4 ∧ p4.type = ti) (htb : P.underlying tb = some .bool)
    (cb : P.cellsOf tb = 1) (ct : P.cellsOf t = 1) (cp : P.cellsOf tp = 5) (ht : P.underlying t = some (.slice e)) (cf : P.cellsOf e = 587) (hs : P.underlying e = some (.struct #[f0, f1, f2, f3, f4, f5]))
    (h0 : f0.offset = 0 ∧ f0.type = ts) (h1 : f1.offset = 1 ∧ f1.type = ti) (h2 : f2.offset = 2 ∧ f2.type = ti) (h3 : f3.offset = 3 ∧ f3.type = tc) (h4 : f4.offset = 582 ∧ f4.type = tl) (h5 : f5.offset = 586 ∧ f5.type = th)
    (hts : P.underlying ts = some .string) (hti : P.underlying ti = some (.int .i64)) (hdc : deepInts P dc tc = true) (hdl : deepInts P dl tl = true) (hth : P.underlying th = some (.slice eh)) (hdh : deepInts P dh eh = true)
    (cs0 : P.cellsOf ts = 1) (ci : P.cellsOf ti = 1) (cc : P.cellsOf tc = 579) (cl : P.cellsOf tl = 4) (ch : P.cellsOf th = 1) (ce : P.cellsOf eh = 5)
    (hv : Value.okWide P w r bb tm v) (h : DataW.Trod enc P w base spare held tm v x ps) :
    ∃ (a : Option Addr) (n c : Nat) (M : Nat → Msg), v = .slice a n c ∧ n ≤ c ∧ c ≤ 9223372036854775807 ∧ (a = none → c = 0) ∧ MsgsIs w a n M := by
  obtain ⟨a, len, cap, rfl⟩ := okWide_slice htm hv
  obtain ⟨fuel, hf⟩ := h
  have hf : DataW.trod enc P w base spare held fuel tm [.slice a len cap] = some (x, ps) := by simpa [Value.cells] using hf
  rcases Deep.open_slice htm hf with ⟨hcs, _⟩ | ⟨y, len, cap, mm, n, D, Pl, hcs, hb, hl, hx0, hmm, _, hx⟩
  · injection hcs with hcs
    injection hcs with e1 e2 e3
    subst e1 e2 e3
    exact ⟨none, 0, 0, fun _ => default, rfl, Nat.le_refl _, by omega, fun _ => rfl, ⟨fun i hi => absurd hi (by simp), fun i hi => absurd hi (by simp)⟩⟩
  · injection hcs with hcs
    injection hcs with e1 e2 e3
    subst e1 e2 e3
    have hml : len ≤ mm := by rw [hmm]; split <;> omega
    rw [cm] at hx
    have key : ∀ i, ∃ F : Msg, i < len → (∀ j, j < 12 → w.cell? ((y.add (i * 12)).add j) = F.cells[j]?) ∧ MsgOk w F := by
      intro i
      by_cases hi : i < len
      · obtain ⟨cs', g1, g2⟩ := hx i (by omega)
        obtain ⟨_, hlen, hcell⟩ := World.cells?_some g1
        obtain ⟨F, k1, k2⟩ := trod_msg hm hp k0 k1 k2 k3 k4 k5 k6 k7 r0 r1 r2 r3 r4 htb cb ct cp ht cf hs h0 h1 h2 h3 h4 h5 hts hti hdc hdl hth hdh cs0 ci cc cl ch ce hlen g2
        exact ⟨F, fun _ => ⟨fun j hj => by rw [hcell j (by omega), k1, Array.getElem?_toList], k2⟩⟩
      · exact ⟨default, fun h => absurd h hi⟩
    refine ⟨some y, len, cap, fun i => (key i).choose, rfl, hl, by unfold maxLen at hx0; omega, fun h => (by cases h), ⟨fun i hi => ?_, fun i hi => ((key i).choose_spec hi).2⟩⟩
    have h1 := ((key i).choose_spec hi).1
    have hys : y.spot = none := by
      have h2 := ((key 0).choose_spec (by omega)).1 0 (by decide)
      exact spot_first (h2.trans rfl)
    obtain ⟨b, o, sp⟩ := y
    obtain rfl : sp = none := hys
    refine ⟨b, o, rfl, fun j hj => ?_⟩
    have h2 := h1 j hj
    have e : ((⟨b, o, none⟩ : Addr).add (i * 12)).add j = ⟨b, o + i * 12 + j, none⟩ := by rw [Addr.add_lit, Addr.add_lit]
    exact (congrArg w.cell? e).symm.trans h2
end
end Go.Proofs.YtlocoieknabiaaaGreat
