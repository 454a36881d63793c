/-
  A slice of fields that came in.
-/
import Derived.Test.YtinhaipnmmgplaaGreatZGE
namespace Go.Proofs.YtinhaipnmmgplaaGreat
set_option maxRecDepth 20000
open Go.ChangeShapes Go.WideShapes Go.ChangeAt Go.RowKit
section
variable {H : Type} {enc : TypeId × Value → H} {P : Program} {w : World} {base : Nat} {spare : Nat → Bool} {held : Bool}
theorem open_flds {t e ts ti tc tl th eh : TypeId} {dc dl dh : Nat} {f0 f1 f2 f3 f4 f5 : Field} {r : Reach} {b0 : Nat} {v : Value} {x : DataW H} {ps : List MemPlace} (ht : P.underlying t = some (.slice e)) (cf : P.cellsOf e = 587) (hs : P.underlying e = some (.struct #[f0, f1, f2, f3, f4, f5]))
    (h0 : f0.offset = 0 ∧ f0.type = ts) (h1 : f1.offset = 1 ∧ f1.type = ti) (h2 : f2.offset = 2 ∧ f2.type = ti) (h3 : f3.offset = 3 ∧ f3.type = tc) (h4 : f4.offset = 582 ∧ f4.type = tl) (h5 : f5.offset = 586 ∧ f5.type = th)
    (hts : P.underlying ts = some .string) (hti : P.underlying ti = some (.int .i64)) (hdc : deepInts P dc tc = true) (hdl : deepInts P dl tl = true) (hth : P.underlying th = some (.slice eh)) (hdh : deepInts P dh eh = true)
    (cs0 : P.cellsOf ts = 1) (ci : P.cellsOf ti = 1) (cc : P.cellsOf tc = 579) (cl : P.cellsOf tl = 4) (ch : P.cellsOf th = 1) (ce : P.cellsOf eh = 5)
    (hv : Value.okWide P w r b0 t v) (h : DataW.Trod enc P w base spare held t v x ps) :
    ∃ (a : Option Addr) (n c : Nat) (L : Nat → Fld), v = .slice a n c ∧ n ≤ c ∧ c ≤ 9223372036854775807 ∧ (a = none → c = 0) ∧ FldsIs w a n L := by
  obtain ⟨a, len, cap, rfl⟩ := okWide_slice ht hv
  obtain ⟨fuel, hf⟩ := h
  exact trod_flds ht cf hs h0 h1 h2 h3 h4 h5 hts hti hdc hdl hth hdh cs0 ci cc cl ch ce (by simpa [Value.cells] using hf)
end
end Go.Proofs.YtinhaipnmmgplaaGreat
