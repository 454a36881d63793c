/-
  What a law's row asks beside the walk: the arguments, read as data, opened to cells.
-/
import Derived.Test.YtpjichkigccfnaaRows
import Derived.Test.YtpjichkigccfnaaBase
import Derived.ProofKit
import Derived.OpenShut
import Derived.ShutString
import Derived.ChangeOld
import Derived.Below
namespace Go.Proofs.Ytpjichkigccfnaa
set_option maxRecDepth 20000
open Go.ChangeShapes Go.WideShapes Go.ChangeAt Go.RowKit

theorem own : ownKnob Try.prog.godebug = none := by kernel_rfl
theorem laidOut : laidOutB Try.prog = true := by kernel_rfl

/-- All cells of the type are of the kind int. -/
def deepInts (P : Program) : Nat → TypeId → Bool
  | 0, _ => false
  | d + 1, t => match P.underlying t with
    | some (.int .i64) => true
    | some (.array n e) => deepInts P d e && P.cellsOf t == n * P.cellsOf e && 0 < P.cellsOf e
    | some (.struct fs) => fs.toList.all (fun f => deepInts P d f.type) && (List.range (P.cellsOf t)).all fun i => fs.toList.any fun f => decide (f.offset ≤ i) && decide (i < f.offset + P.cellsOf f.type)
    | _ => false

section
variable {H : Type} {enc : TypeId × Value → H} {P : Program} {w : World} {base : Nat} {spare : Nat → Bool} {held : Bool}
theorem deepInts_cells : ∀ (d : Nat) (t : TypeId) (fuel : Nat) (cs : List Value) (x : DataW H × List MemPlace), deepInts P d t = true → DataW.trod enc P w base spare held fuel t cs = some x →
    ∀ i, i < cs.length → ∃ m, cs[i]? = some (.int .i64 m) ∧ (Lit.int .i64 m).wf = true := by
  intro d
  induction d with
  | zero => intro t fuel cs x h; simp [deepInts] at h
  | succ d ih =>
    intro t fuel cs x h hx i hi
    unfold deepInts at h
    split at h
    · rename_i ht
      obtain ⟨n, rfl, _, hw⟩ := DataW.trod_int ht hx
      have : i = 0 := by simpa using hi
      subst this
      exact ⟨n, rfl, hw⟩
    · rename_i n e ht
      simp only [Bool.and_eq_true, beq_iff_eq, decide_eq_true_eq] at h
      obtain ⟨⟨h1, h2⟩, h3⟩ := h
      obtain ⟨xs, m, _, _, hl, hxl, hg⟩ := DataW.trod_array ht hx
      have hdiv : i / P.cellsOf e < n := by rw [Nat.div_lt_iff_lt_mul h3]; omega
      have hq := hg (i / P.cellsOf e) hdiv
      have hs : xs[i / P.cellsOf e]? = some (xs[i / P.cellsOf e]'(by omega)) := List.getElem?_eq_getElem (by omega)
      rw [hs] at hq
      have hmod := Nat.mod_lt i h3
      have hdm : i / P.cellsOf e * P.cellsOf e + i % P.cellsOf e = i := by rw [Nat.mul_comm]; exact Nat.div_add_mod i _
      have hle : (i / P.cellsOf e + 1) * P.cellsOf e ≤ n * P.cellsOf e := Nat.mul_le_mul_right _ hdiv
      rw [Nat.add_mul, Nat.one_mul] at hle
      obtain ⟨mm, hm1, hm2⟩ := ih e m _ _ h1 hq (i % P.cellsOf e) (by simp; omega)
      refine ⟨mm, ?_, hm2⟩
      rw [List.getElem?_take, if_pos hmod, List.getElem?_drop, hdm] at hm1
      exact hm1
    · rename_i fs ht
      simp only [Bool.and_eq_true, List.all_eq_true, List.mem_range, List.any_eq_true, decide_eq_true_eq] at h
      obtain ⟨h1, h2⟩ := h
      obtain ⟨xs, m, _, _, hl, hxl, hg⟩ := DataW.trod_struct ht hx
      obtain ⟨f, hf, hlo, hhi⟩ := h2 i (by omega)
      obtain ⟨k, hk⟩ := List.mem_iff_getElem?.1 hf
      have hk' : fs[k]? = some f := by simpa using hk
      have hkl : k < fs.size := (Array.getElem?_eq_some_iff.1 hk').1
      have hq := hg k f hk'
      have hs : xs[k]? = some (xs[k]'(by omega)) := List.getElem?_eq_getElem (by omega)
      rw [hs] at hq
      obtain ⟨mm, hm1, hm2⟩ := ih f.type m _ _ (h1 f hf) hq (i - f.offset) (by simp; omega)
      refine ⟨mm, ?_, hm2⟩
      rw [List.getElem?_take, if_pos (by omega), List.getElem?_drop, show f.offset + (i - f.offset) = i by omega] at hm1
      exact hm1
    · cases h
/-- An argument all of whose cells are of the kind int: one function. -/
theorem open_agg {d n : Nat} {t : TypeId} {r : Reach} {b0 : Nat} {v : Value} {x : DataW H} {ps : List MemPlace} (ht : (match P.underlying t with | some (.struct _) | some (.array _ _) => true | _ => false) = true) (hd : deepInts P d t = true) (hn : P.cellsOf t = n)
    (hv : Value.okWide P w r b0 t v) (h : DataW.Trod enc P w base spare held t v x ps) : ∃ f : Nat → Int, v = .agg (ints n f) ∧ ∀ i, i < n → -9223372036854775808 ≤ f i ∧ f i ≤ 9223372036854775807 := by
  have hv' : ∃ cs, v = .agg cs ∧ cs.size = P.cellsOf t := by
    unfold Value.okWide at hv
    split at hv
    · obtain ⟨cs, h1, h2, _⟩ := hv; exact ⟨cs, h1, h2⟩
    · obtain ⟨cs, h1, h2, _⟩ := hv; exact ⟨cs, h1, h2⟩
    · rename_i h1 h2
      split at ht
      · rename_i fs he; exact absurd he (h1 fs)
      · rename_i m e he; exact absurd he (h2 m e)
      · cases ht
  obtain ⟨cs, rfl, hs⟩ := hv'
  obtain ⟨fuel, hf⟩ := h
  have hc := deepInts_cells d t fuel cs.toList (x, ps) hd hf
  have key : ∀ i, ∃ m : Int, i < n → cs[i]? = some (.int .i64 m) ∧ -9223372036854775808 ≤ m ∧ m ≤ 9223372036854775807 := by
    intro i
    by_cases hi : i < n
    · obtain ⟨m, h1, h2⟩ := hc i (by simp; omega)
      refine ⟨m, fun _ => ⟨by simpa using h1, ?_⟩⟩
      exact bounds_i64 h2
    · exact ⟨0, fun h => absurd h hi⟩
  exact ⟨fun i => (key i).choose, congrArg Value.agg (eq_cellsF (by omega) fun i hi => ((key i).choose_spec hi).1), fun i hi => ((key i).choose_spec hi).2⟩

/-- A slice of ints that came in. -/
theorem open_slice_ints {t e : TypeId} {r : Reach} {b0 : Nat} {v : Value} {x : DataW H} {ps : List MemPlace} (ht : P.underlying t = some (.slice e)) (he : P.underlying e = some (.int .i64)) (hC : P.cellsOf e = 1)
    (hv : Value.okWide P w r b0 t v) (h : DataW.Trod enc P w base spare held t v x ps) :
    ∃ (a : Option Addr) (cap : Nat) (l : List Int), v = .slice a l.length cap ∧ (l.length ≤ 9223372036854775807 ∧ (a = none → cap = 0 ∧ l = []) ∧ l.length ≤ cap) ∧ (∀ n ∈ l, -9223372036854775808 ≤ n ∧ n ≤ 9223372036854775807) ∧
      ∀ i, i < l.length → ∃ b o, a = some ⟨b, o, none⟩ ∧ w.cell? ⟨b, o + i, none⟩ = some (.int .i64 (l.getD i 0)) := by
  obtain ⟨a, len, cap, rfl⟩ := okWide_slice ht hv
  obtain ⟨fuel, hf⟩ := h
  rcases open_ints ht he hC hf with ⟨hcs, _⟩ | ⟨y, l, c, zs, hcs, _, hl, hm, hz, _, hcell, hwz⟩
  · simp [Value.cells] at hcs
    obtain ⟨rfl, rfl, rfl⟩ := hcs
    exact ⟨none, 0, [], rfl, ⟨by simp, fun _ => ⟨rfl, rfl⟩, by simp⟩, fun n hn => (by cases hn), fun i hi => absurd hi (by simp)⟩
  · simp [Value.cells] at hcs
    obtain ⟨rfl, rfl, rfl⟩ := hcs
    have hzl : len ≤ zs.length := by rw [hz]; split <;> omega
    have hlen : (zs.take len).length = len := by simp; omega
    refine ⟨some y, cap, zs.take len, by rw [hlen], ⟨by rw [hlen]; unfold maxLen at hm; omega, fun h => (by cases h), by rw [hlen]; exact hl⟩, fun n hn => bounds_i64 (hwz n (List.mem_of_mem_take hn)), fun i hi => ?_⟩
    rw [hlen] at hi
    have h0 := hcell 0 (by omega)
    obtain ⟨b, o, sp⟩ := y
    have hsp : sp = none := by
      have := World.cell?_spot h0
      simpa [Addr.add] using this
    subst hsp
    refine ⟨b, o, rfl, ?_⟩
    have h1 := hcell i (by omega)
    rw [Addr.add_lit] at h1
    rw [h1]
    simp [List.getD, hi]
end
end Go.Proofs.Ytpjichkigccfnaa
