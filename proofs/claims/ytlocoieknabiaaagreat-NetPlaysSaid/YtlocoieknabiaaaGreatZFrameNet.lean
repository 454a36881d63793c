/-
  A slice of a net's steps that came in.
-/
import Derived.Test.YtlocoieknabiaaaGreatZFrameMs
import Derived.Test.YtlocoieknabiaaaGreatZDos15
namespace Go.Proofs.YtlocoieknabiaaaGreat
set_option maxRecDepth 20000
set_option linter.unusedVariables false
open Go.ChangeShapes Go.WideShapes Go.ChangeAt Go.RowKit
section
variable {H : Type} {enc : TypeId × Value → H} {P : Program} {w : World} {base : Nat} {spare : Nat → Bool} {held : Bool}
theorem trod_do15 {td : TypeId} {m e t ts ti tb tc tl th eh tp : TypeId} {dc dl dh : Nat} {f0 f1 f2 f3 f4 f5 g0 g1 g2 g3 g4 g5 g6 g7 p0 p1 p2 p3 p4 q0 q1 q2 : Field} {fuel : Nat} {cs : List Value} {x : DataW H × List MemPlace} (hd : P.underlying td = some (.struct #[q0, q1, q2])) (d0 : q0.offset = 0 ∧ q0.type = ti) (d1 : q1.offset = 1 ∧ q1.type = ti) (d2 : q2.offset = 2 ∧ q2.type = m) (cm : P.cellsOf m = 12)
    (hm : P.underlying m = some (.struct #[g0, g1, g2, g3, g4, g5, g6, g7])) (hp : P.underlying tp = some (.struct #[p0, p1, p2, p3, p4]))
    (k0 : g0.offset = 0 ∧ g0.type = ti) (k1 : g1.offset = 1 ∧ g1.type = ti) (k2 : g2.offset = 2 ∧ g2.type = ti) (k3 : g3.offset = 3 ∧ g3.type = ti) (k4 : g4.offset = 4 ∧ g4.type = ti) (k5 : g5.offset = 5 ∧ g5.type = tb) (k6 : g6.offset = 6 ∧ g6.type = t) (k7 : g7.offset = 7 ∧ g7.type = tp)
    (r0 : p0.offset = 0 ∧ p0.type = ti) (r1 : p1.offset = 1 ∧ p1.type = ts) (r2 : p2.offset = 2 ∧ p2.type = ts) (r3 : p3.offset = 3 ∧ p3.type = ti) (r4 : p4.offset = 4 ∧ p4.type = ti) (htb : P.underlying tb = some .bool)
    (cb : P.cellsOf tb = 1) (ct : P.cellsOf t = 1) (cp : P.cellsOf tp = 5) (ht : P.underlying t = some (.slice e)) (cf : P.cellsOf e = 587) (hs : P.underlying e = some (.struct #[f0, f1, f2, f3, f4, f5]))
    (h0 : f0.offset = 0 ∧ f0.type = ts) (h1 : f1.offset = 1 ∧ f1.type = ti) (h2 : f2.offset = 2 ∧ f2.type = ti) (h3 : f3.offset = 3 ∧ f3.type = tc) (h4 : f4.offset = 582 ∧ f4.type = tl) (h5 : f5.offset = 586 ∧ f5.type = th)
    (hts : P.underlying ts = some .string) (hti : P.underlying ti = some (.int .i64)) (hdc : deepInts P dc tc = true) (hdl : deepInts P dl tl = true) (hth : P.underlying th = some (.slice eh)) (hdh : deepInts P dh eh = true)
    (cs0 : P.cellsOf ts = 1) (ci : P.cellsOf ti = 1) (cc : P.cellsOf tc = 579) (cl : P.cellsOf tl = 4) (ch : P.cellsOf th = 1) (ce : P.cellsOf eh = 5)
    (hc : cs.length = 14) (h : DataW.trod enc P w base spare held fuel td cs = some x) :
    ∃ (v k : Int) (M : Msg), cs = (doC v k M).toList ∧ MsgOk w M := by
  obtain ⟨xs, n, _, _, hl, hxl, hg⟩ := DataW.trod_struct hd h
  match cs, hc with
  | [a0, a1, a2, a3, a4, a5, a6, a7, a8, a9, a10, a11, a12, a13], _ =>
    have hx : ∀ k, k < 3 → ∃ y, xs[k]? = some y := fun k hk => ⟨_, List.getElem?_eq_getElem (by rw [hxl]; exact hk)⟩
    have q0' := hg 0 q0 rfl
    obtain ⟨y0, e0⟩ := hx 0 (by decide)
    rw [d0.1, d0.2, ci, e0] at q0'
    obtain ⟨n0, l0, _, _⟩ := DataW.trod_int hti q0'
    simp at l0
    subst l0
    have q1' := hg 1 q1 rfl
    obtain ⟨y1, e1⟩ := hx 1 (by decide)
    rw [d1.1, d1.2, ci, e1] at q1'
    obtain ⟨n1, l1, _, _⟩ := DataW.trod_int hti q1'
    simp at l1
    subst l1
    have q2' := hg 2 q2 rfl
    obtain ⟨y2, e2⟩ := hx 2 (by decide)
    rw [d2.1, d2.2, cm, e2] at q2'
    obtain ⟨M, l2, w2⟩ := trod_msg (cs := [a2, a3, a4, a5, a6, a7, a8, a9, a10, a11, a12, a13]) hm hp k0 k1 k2 k3 k4 k5 k6 k7 r0 r1 r2 r3 r4 htb cb ct cp ht cf hs h0 h1 h2 h3 h4 h5 hts hti hdc hdl hth hdh cs0 ci cc cl ch ce rfl q2'
    simp [Msg.cells] at l2
    obtain ⟨rfl, rfl, rfl, rfl, rfl, rfl, rfl, rfl, rfl, rfl, rfl, rfl⟩ := l2
    exact ⟨n0, n1, M, by simp [doC], w2⟩
theorem open_dos15 {tq td : TypeId} {m e t ts ti tb tc tl th eh tp : TypeId} {dc dl dh : Nat} {f0 f1 f2 f3 f4 f5 g0 g1 g2 g3 g4 g5 g6 g7 p0 p1 p2 p3 p4 q0 q1 q2 : Field} {r : Reach} {bb : Nat} {v : Value} {x : DataW H} {ps : List MemPlace} (htq : P.underlying tq = some (.slice td)) (cd : P.cellsOf td = 14)
    (hd : P.underlying td = some (.struct #[q0, q1, q2])) (d0 : q0.offset = 0 ∧ q0.type = ti) (d1 : q1.offset = 1 ∧ q1.type = ti) (d2 : q2.offset = 2 ∧ q2.type = m) (cm : P.cellsOf m = 12)
    (hm : P.underlying m = some (.struct #[g0, g1, g2, g3, g4, g5, g6, g7])) (hp : P.underlying tp = some (.struct #[p0, p1, p2, p3, p4]))
    (k0 : g0.offset = 0 ∧ g0.type = ti) (k1 : g1.offset = 1 ∧ g1.type = ti) (k2 : g2.offset = 2 ∧ g2.type = ti) (k3 : g3.offset = 3 ∧ g3.type = ti) (k4 : g4.offset = 4 ∧ g4.type = ti) (k5 : g5.offset = 5 ∧ g5.type = tb) (k6 : g6.offset = 6 ∧ g6.type = t) (k7 : g7.offset = 7 ∧ g7.type = tp)
    (r0 : p0.offset = 0 ∧ p0.type = ti) (r1 : p1.offset = 1 ∧ p1.type = ts) (r2 : p2.offset = 2 ∧ p2.type = ts) (r3 : p3.offset = 3 ∧ p3.type = ti) (r4 : p4.offset = 4 ∧ p4.type = ti) (htb : P.underlying tb = some .bool)
    (cb : P.cellsOf tb = 1) (ct : P.cellsOf t = 1) (cp : P.cellsOf tp = 5) (ht : P.underlying t = some (.slice e)) (cf : P.cellsOf e = 587) (hs : P.underlying e = some (.struct #[f0, f1, f2, f3, f4, f5]))
    (h0 : f0.offset = 0 ∧ f0.type = ts) (h1 : f1.offset = 1 ∧ f1.type = ti) (h2 : f2.offset = 2 ∧ f2.type = ti) (h3 : f3.offset = 3 ∧ f3.type = tc) (h4 : f4.offset = 582 ∧ f4.type = tl) (h5 : f5.offset = 586 ∧ f5.type = th)
    (hts : P.underlying ts = some .string) (hti : P.underlying ti = some (.int .i64)) (hdc : deepInts P dc tc = true) (hdl : deepInts P dl tl = true) (hth : P.underlying th = some (.slice eh)) (hdh : deepInts P dh eh = true)
    (cs0 : P.cellsOf ts = 1) (ci : P.cellsOf ti = 1) (cc : P.cellsOf tc = 579) (cl : P.cellsOf tl = 4) (ch : P.cellsOf th = 1) (ce : P.cellsOf eh = 5)
    (hv : Value.okWide P w r bb tq v) (h : DataW.Trod enc P w base spare held tq v x ps) :
    ∃ (a : Option Addr) (n c : Nat) (V K : Nat → Int) (M : Nat → Msg), v = .slice a n c ∧ n ≤ c ∧ c ≤ 9223372036854775807 ∧ (a = none → c = 0) ∧ DosIs w a n V K M := by
  obtain ⟨a, len, cap, rfl⟩ := okWide_slice htq hv
  obtain ⟨fuel, hf⟩ := h
  have hf : DataW.trod enc P w base spare held fuel tq [.slice a len cap] = some (x, ps) := by simpa [Value.cells] using hf
  rcases Deep.open_slice htq hf with ⟨hcs, _⟩ | ⟨y, len, cap, mm, n, D, Pl, hcs, hb, hl, hx0, hmm, _, hx⟩
  · injection hcs with hcs
    injection hcs with e1 e2 e3
    subst e1 e2 e3
    exact ⟨none, 0, 0, fun _ => 0, fun _ => 0, fun _ => default, rfl, Nat.le_refl _, by omega, fun _ => rfl, ⟨fun i hi => absurd hi (by simp), fun i hi => absurd hi (by simp)⟩⟩
  · injection hcs with hcs
    injection hcs with e1 e2 e3
    subst e1 e2 e3
    have hml : len ≤ mm := by rw [hmm]; split <;> omega
    rw [cd] at hx
    have key : ∀ i, ∃ F : Int × Int × Msg, i < len → (∀ j, j < 14 → w.cell? ((y.add (i * 14)).add j) = (doC F.1 F.2.1 F.2.2)[j]?) ∧ MsgOk w F.2.2 := by
      intro i
      by_cases hi : i < len
      · obtain ⟨cs', g1, g2⟩ := hx i (by omega)
        obtain ⟨_, hlen, hcell⟩ := World.cells?_some g1
        obtain ⟨v1, k1, F, e1, e2⟩ := trod_do15 hd d0 d1 d2 cm hm hp k0 k1 k2 k3 k4 k5 k6 k7 r0 r1 r2 r3 r4 htb cb ct cp ht cf hs h0 h1 h2 h3 h4 h5 hts hti hdc hdl hth hdh cs0 ci cc cl ch ce hlen g2
        exact ⟨(v1, k1, F), fun _ => ⟨fun j hj => by rw [hcell j (by omega), e1, Array.getElem?_toList], e2⟩⟩
      · exact ⟨default, fun h => absurd h hi⟩
    refine ⟨some y, len, cap, fun i => (key i).choose.1, fun i => (key i).choose.2.1, fun i => (key i).choose.2.2, rfl, hl, by unfold maxLen at hx0; omega, fun h => (by cases h), ⟨fun i hi => ?_, fun i hi => ((key i).choose_spec hi).2⟩⟩
    have h1 := ((key i).choose_spec hi).1
    have hys : y.spot = none := by
      have h2 := ((key 0).choose_spec (by omega)).1 0 (by decide)
      exact spot_first (h2.trans rfl)
    obtain ⟨b, o, sp⟩ := y
    obtain rfl : sp = none := hys
    refine ⟨b, o, rfl, fun j hj => ?_⟩
    have h2 := h1 j hj
    have e : ((⟨b, o, none⟩ : Addr).add (i * 14)).add j = ⟨b, o + i * 14 + j, none⟩ := by rw [Addr.add_lit, Addr.add_lit]
    exact (congrArg w.cell? e).symm.trans h2
end
end Go.Proofs.YtlocoieknabiaaaGreat
