/-
  What a law's row asks beside the walk: the arguments, read as data, opened to cells.
-/
import Derived.Test.YtinhaipnmmgplaaGreatRows
import Derived.Test.YtinhaipnmmgplaaGreatZGA
import Derived.ProofKit
import Derived.OpenShut
import Derived.ShutString
import Derived.ChangeOld
import Derived.Below
import Derived.Test.YtinhaipnmmgplaaGreatZGD
import Derived.Deep.Slices
namespace Go.Proofs.YtinhaipnmmgplaaGreat
set_option maxRecDepth 20000
open Go.ChangeShapes Go.WideShapes Go.ChangeAt Go.RowKit

theorem own : ownKnob Tryz.prog.godebug = none := by kernel_rfl
theorem laidOut : laidOutB Tryz.prog = true := by kernel_rfl

/-- All cells of the type are of the kind int. -/
def deepInts (P : Program) : Nat → TypeId → Bool
  | 0, _ => false
  | d + 1, t => match P.underlying t with
    | some (.int .i64) => true
    | some (.array n e) => deepInts P d e && P.cellsOf t == n * P.cellsOf e && 0 < P.cellsOf e
    | some (.struct fs) => fs.toList.all (fun f => deepInts P d f.type) && (List.range (P.cellsOf t)).all fun i => fs.toList.any fun f => decide (f.offset ≤ i) && decide (i < f.offset + P.cellsOf f.type)
    | _ => false

section
variable {H : Type} {enc : TypeId × Value → H} {P : Program} {w : World} {base : Nat} {spare : Nat → Bool} {held : Bool}
theorem deepInts_cells : ∀ (d : Nat) (t : TypeId) (fuel : Nat) (cs : List Value) (x : DataW H × List MemPlace), deepInts P d t = true → DataW.trod enc P w base spare held fuel t cs = some x →
    ∀ i, i < cs.length → ∃ m, cs[i]? = some (.int .i64 m) ∧ (Lit.int .i64 m).wf = true := by
  intro d
  induction d with
  | zero => intro t fuel cs x h; simp [deepInts] at h
  | succ d ih =>
    intro t fuel cs x h hx i hi
    unfold deepInts at h
    split at h
    · rename_i ht
      obtain ⟨n, rfl, _, hw⟩ := DataW.trod_int ht hx
      have : i = 0 := by simpa using hi
      subst this
      exact ⟨n, rfl, hw⟩
    · rename_i n e ht
      simp only [Bool.and_eq_true, beq_iff_eq, decide_eq_true_eq] at h
      obtain ⟨⟨h1, h2⟩, h3⟩ := h
      obtain ⟨xs, m, _, _, hl, hxl, hg⟩ := DataW.trod_array ht hx
      have hdiv : i / P.cellsOf e < n := by rw [Nat.div_lt_iff_lt_mul h3]; omega
      have hq := hg (i / P.cellsOf e) hdiv
      have hs : xs[i / P.cellsOf e]? = some (xs[i / P.cellsOf e]'(by omega)) := List.getElem?_eq_getElem (by omega)
      rw [hs] at hq
      have hmod := Nat.mod_lt i h3
      have hdm : i / P.cellsOf e * P.cellsOf e + i % P.cellsOf e = i := by rw [Nat.mul_comm]; exact Nat.div_add_mod i _
      have hle : (i / P.cellsOf e + 1) * P.cellsOf e ≤ n * P.cellsOf e := Nat.mul_le_mul_right _ hdiv
      rw [Nat.add_mul, Nat.one_mul] at hle
      obtain ⟨mm, hm1, hm2⟩ := ih e m _ _ h1 hq (i % P.cellsOf e) (by simp; omega)
      refine ⟨mm, ?_, hm2⟩
      rw [List.getElem?_take, if_pos hmod, List.getElem?_drop, hdm] at hm1
      exact hm1
    · rename_i fs ht
      simp only [Bool.and_eq_true, List.all_eq_true, List.mem_range, List.any_eq_true, decide_eq_true_eq] at h
      obtain ⟨h1, h2⟩ := h
      obtain ⟨xs, m, _, _, hl, hxl, hg⟩ := DataW.trod_struct ht hx
      obtain ⟨f, hf, hlo, hhi⟩ := h2 i (by omega)
      obtain ⟨k, hk⟩ := List.mem_iff_getElem?.1 hf
      have hk' : fs[k]? = some f := by simpa using hk
      have hkl : k < fs.size := (Array.getElem?_eq_some_iff.1 hk').1
      have hq := hg k f hk'
      have hs : xs[k]? = some (xs[k]'(by omega)) := List.getElem?_eq_getElem (by omega)
      rw [hs] at hq
      obtain ⟨mm, hm1, hm2⟩ := ih f.type m _ _ (h1 f hf) hq (i - f.offset) (by simp; omega)
      refine ⟨mm, ?_, hm2⟩
      rw [List.getElem?_take, if_pos (by omega), List.getElem?_drop, show f.offset + (i - f.offset) = i by omega] at hm1
      exact hm1
    · cases h
/-- An argument all of whose cells are of the kind int: one function. -/
theorem open_agg {d n : Nat} {t : TypeId} {r : Reach} {b0 : Nat} {v : Value} {x : DataW H} {ps : List MemPlace} (ht : (match P.underlying t with | some (.struct _) | some (.array _ _) => true | _ => false) = true) (hd : deepInts P d t = true) (hn : P.cellsOf t = n)
    (hv : Value.okWide P w r b0 t v) (h : DataW.Trod enc P w base spare held t v x ps) : ∃ f : Nat → Int, v = .agg (ints n f) ∧ ∀ i, i < n → -9223372036854775808 ≤ f i ∧ f i ≤ 9223372036854775807 := by
  have hv' : ∃ cs, v = .agg cs ∧ cs.size = P.cellsOf t := by
    unfold Value.okWide at hv
    split at hv
    · obtain ⟨cs, h1, h2, _⟩ := hv; exact ⟨cs, h1, h2⟩
    · obtain ⟨cs, h1, h2, _⟩ := hv; exact ⟨cs, h1, h2⟩
    · rename_i h1 h2
      split at ht
      · rename_i fs he; exact absurd he (h1 fs)
      · rename_i m e he; exact absurd he (h2 m e)
      · cases ht
  obtain ⟨cs, rfl, hs⟩ := hv'
  obtain ⟨fuel, hf⟩ := h
  have hc := deepInts_cells d t fuel cs.toList (x, ps) hd hf
  have key : ∀ i, ∃ m : Int, i < n → cs[i]? = some (.int .i64 m) ∧ -9223372036854775808 ≤ m ∧ m ≤ 9223372036854775807 := by
    intro i
    by_cases hi : i < n
    · obtain ⟨m, h1, h2⟩ := hc i (by simp; omega)
      refine ⟨m, fun _ => ⟨by simpa using h1, ?_⟩⟩
      exact bounds_i64 h2
    · exact ⟨0, fun h => absurd h hi⟩
  exact ⟨fun i => (key i).choose, congrArg Value.agg (eq_cellsF (by omega) fun i hi => ((key i).choose_spec hi).1), fun i hi => ((key i).choose_spec hi).2⟩

/-- A slice of ints that came in. -/
theorem open_slice_ints {t e : TypeId} {r : Reach} {b0 : Nat} {v : Value} {x : DataW H} {ps : List MemPlace} (ht : P.underlying t = some (.slice e)) (he : P.underlying e = some (.int .i64)) (hC : P.cellsOf e = 1)
    (hv : Value.okWide P w r b0 t v) (h : DataW.Trod enc P w base spare held t v x ps) :
    ∃ (a : Option Addr) (cap : Nat) (l : List Int), v = .slice a l.length cap ∧ (l.length ≤ 9223372036854775807 ∧ (a = none → cap = 0 ∧ l = []) ∧ l.length ≤ cap) ∧ (∀ n ∈ l, -9223372036854775808 ≤ n ∧ n ≤ 9223372036854775807) ∧
      ∀ i, i < l.length → ∃ b o, a = some ⟨b, o, none⟩ ∧ w.cell? ⟨b, o + i, none⟩ = some (.int .i64 (l.getD i 0)) := by
  obtain ⟨a, len, cap, rfl⟩ := okWide_slice ht hv
  obtain ⟨fuel, hf⟩ := h
  rcases open_ints ht he hC hf with ⟨hcs, _⟩ | ⟨y, l, c, zs, hcs, _, hl, hm, hz, _, hcell, hwz⟩
  · simp [Value.cells] at hcs
    obtain ⟨rfl, rfl, rfl⟩ := hcs
    exact ⟨none, 0, [], rfl, ⟨by simp, fun _ => ⟨rfl, rfl⟩, by simp⟩, fun n hn => (by cases hn), fun i hi => absurd hi (by simp)⟩
  · simp [Value.cells] at hcs
    obtain ⟨rfl, rfl, rfl⟩ := hcs
    have hzl : len ≤ zs.length := by rw [hz]; split <;> omega
    have hlen : (zs.take len).length = len := by simp; omega
    refine ⟨some y, cap, zs.take len, by rw [hlen], ⟨by rw [hlen]; unfold maxLen at hm; omega, fun h => (by cases h), by rw [hlen]; exact hl⟩, fun n hn => bounds_i64 (hwz n (List.mem_of_mem_take hn)), fun i hi => ?_⟩
    rw [hlen] at hi
    have h0 := hcell 0 (by omega)
    obtain ⟨b, o, sp⟩ := y
    have hsp : sp = none := by
      have := World.cell?_spot h0
      simpa [Addr.add] using this
    subst hsp
    refine ⟨b, o, rfl, ?_⟩
    have h1 := hcell i (by omega)
    rw [Addr.add_lit] at h1
    rw [h1]
    simp [List.getD, hi]
end
end Go.Proofs.YtinhaipnmmgplaaGreat

/-
  Fields and messages that came in.
-/
namespace Go.Proofs.YtinhaipnmmgplaaGreat
set_option maxRecDepth 20000
open Go.ChangeShapes Go.WideShapes Go.ChangeAt Go.RowKit
section
variable {H : Type} {enc : TypeId × Value → H} {P : Program} {w : World} {base : Nat} {spare : Nat → Bool} {held : Bool}
theorem spot_first {a : Addr} {k : Nat} {v : Value} (h : w.cell? ((a.add (0 * k)).add 0) = some v) : a.spot = none := by
  have e : (a.add (0 * k)).add 0 = a := by rw [Nat.zero_mul]; simp [Addr.add]
  rw [e] at h
  exact World.cell?_spot h
theorem len_text {s : ByteArray} (h : s.size ≤ maxLen) : s.data.toList.length ≤ 9223372036854775807 := by
  unfold maxLen at h
  rw [Array.length_toList]
  exact h
/-- A slice of structs of ints. -/
theorem trod_int_rows {t e : TypeId} {d m fuel : Nat} {v : Value} {x : DataW H × List MemPlace} (ht : P.underlying t = some (.slice e)) (hd : deepInts P d e = true) (hm : P.cellsOf e = m) (hm0 : 0 < m) (hf : DataW.trod enc P w base spare held fuel t [v] = some x) :
    ∃ (a : Option Addr) (n c : Nat) (f : Nat → Int), v = .slice a n c ∧ n ≤ c ∧ c ≤ 9223372036854775807 ∧ (a = none → c = 0) ∧ IntsIs w a (m * n) f := by
  rcases Deep.open_slice ht hf with ⟨hcs, _⟩ | ⟨y, len, cap, mm, n, D, Pl, hcs, hb, hl, hx0, hmm, _, hx⟩
  · injection hcs with hcs
    subst hcs
    exact ⟨none, 0, 0, fun _ => 0, rfl, Nat.le_refl _, by omega, fun _ => rfl, fun i hi => absurd hi (by simp)⟩
  · injection hcs with hcs
    subst hcs
    have hml : len ≤ mm := by rw [hmm]; split <;> omega
    rw [hm] at hx
    have key : ∀ i, ∃ z : Int, i < m * len → ∃ b o, y = ⟨b, o, none⟩ ∧ w.cell? ⟨b, o + i, none⟩ = some (.int .i64 z) := by
      intro i
      by_cases hi : i < m * len
      · have hq : i / m < len := by rw [Nat.div_lt_iff_lt_mul hm0, Nat.mul_comm]; exact hi
        have hr := Nat.mod_lt i hm0
        obtain ⟨cs', g1, g2⟩ := hx (i / m) (by omega)
        obtain ⟨_, hlen, hcell⟩ := World.cells?_some g1
        obtain ⟨z, hz, _⟩ := deepInts_cells d e n cs' _ hd g2 (i % m) (by omega)
        refine ⟨z, fun _ => ?_⟩
        have h1 := hcell (i % m) hr
        rw [hz] at h1
        have hys : y.spot = none := by
          obtain ⟨cs2, g3, g4⟩ := hx 0 (Nat.lt_of_le_of_lt (Nat.zero_le _) (Nat.lt_of_lt_of_le hq hml))
          obtain ⟨_, hlen2, hcell2⟩ := World.cells?_some g3
          obtain ⟨z2, hz2, _⟩ := deepInts_cells d e n cs2 _ hd g4 0 (by omega)
          exact spot_first ((hcell2 0 hm0).trans hz2)
        obtain ⟨b, o, sp⟩ := y
        obtain rfl : sp = none := hys
        rw [Addr.add_lit, Addr.add_lit, Nat.add_assoc, show i / m * m + i % m = i by rw [Nat.mul_comm]; exact Nat.div_add_mod i m] at h1
        exact ⟨b, o, rfl, h1⟩
      · exact ⟨0, fun h => absurd h hi⟩
    refine ⟨some y, len, cap, fun i => (key i).choose, rfl, hl, by unfold maxLen at hx0; omega, fun h => (by cases h), fun i hi => ?_⟩
    obtain ⟨b, o, h1, h2⟩ := (key i).choose_spec hi
    exact ⟨b, o, by rw [h1], h2⟩
theorem ints_of_trod {t : TypeId} {d n fuel : Nat} {cs : List Value} {x : DataW H × List MemPlace} (hd : deepInts P d t = true) (hf : DataW.trod enc P w base spare held fuel t cs = some x) (hl : cs.length = n) :
    ∃ f : Nat → Int, ∀ i, i < n → cs[i]? = some (.int .i64 (f i)) := by
  have key : ∀ i, ∃ z : Int, i < n → cs[i]? = some (.int .i64 z) := by
    intro i
    by_cases hi : i < n
    · obtain ⟨z, h1, _⟩ := deepInts_cells d t fuel cs x hd hf i (by omega)
      exact ⟨z, fun _ => h1⟩
    · exact ⟨0, fun h => absurd h hi⟩
  exact ⟨fun i => (key i).choose, fun i hi => (key i).choose_spec hi⟩
theorem trod_fld {e ts ti tc tl th eh : TypeId} {dc dl dh : Nat} {f0 f1 f2 f3 f4 f5 : Field} {fuel : Nat} {cs : List Value} {x : DataW H × List MemPlace} (hs : P.underlying e = some (.struct #[f0, f1, f2, f3, f4, f5]))
    (h0 : f0.offset = 0 ∧ f0.type = ts) (h1 : f1.offset = 1 ∧ f1.type = ti) (h2 : f2.offset = 2 ∧ f2.type = ti) (h3 : f3.offset = 3 ∧ f3.type = tc) (h4 : f4.offset = 582 ∧ f4.type = tl) (h5 : f5.offset = 586 ∧ f5.type = th)
    (hts : P.underlying ts = some .string) (hti : P.underlying ti = some (.int .i64)) (hdc : deepInts P dc tc = true) (hdl : deepInts P dl tl = true) (hth : P.underlying th = some (.slice eh)) (hdh : deepInts P dh eh = true)
    (cs0 : P.cellsOf ts = 1) (ci : P.cellsOf ti = 1) (cc : P.cellsOf tc = 579) (cl : P.cellsOf tl = 4) (ch : P.cellsOf th = 1) (ce : P.cellsOf eh = 5) (hc : cs.length = 587) (h : DataW.trod enc P w base spare held fuel e cs = some x) :
    ∃ F : Fld, (∀ j, j < 587 → cs[j]? = F.cells[j]?) ∧ FldOk w F := by
  obtain ⟨xs, n, _, _, hl, hxl, hg⟩ := DataW.trod_struct hs h
  have q0 := hg 0 f0 rfl
  have q1 := hg 1 f1 rfl
  have q2 := hg 2 f2 rfl
  have q3 := hg 3 f3 rfl
  have q4 := hg 4 f4 rfl
  have q5 := hg 5 f5 rfl
  have hx : ∀ k, k < 6 → ∃ y, xs[k]? = some y := fun k hk => ⟨_, List.getElem?_eq_getElem (by rw [hxl]; exact hk)⟩
  obtain ⟨y0, e0⟩ := hx 0 (by decide)
  obtain ⟨y1, e1⟩ := hx 1 (by decide)
  obtain ⟨y2, e2⟩ := hx 2 (by decide)
  obtain ⟨y3, e3⟩ := hx 3 (by decide)
  obtain ⟨y4, e4⟩ := hx 4 (by decide)
  obtain ⟨y5, e5⟩ := hx 5 (by decide)
  rw [h0.1, h0.2, cs0, e0] at q0
  rw [h1.1, h1.2, ci, e1] at q1
  rw [h2.1, h2.2, ci, e2] at q2
  rw [h3.1, h3.2, cc, e3] at q3
  rw [h4.1, h4.2, cl, e4] at q4
  rw [h5.1, h5.2, ch, e5] at q5
  obtain ⟨s, k0, _, hsz⟩ := DataW.trod_string hts q0
  obtain ⟨n1, k1, _, _⟩ := DataW.trod_int hti q1
  obtain ⟨n2, k2, _, _⟩ := DataW.trod_int hti q2
  obtain ⟨fc, k3⟩ := ints_of_trod (n := 579) hdc q3 (by rw [List.length_take, List.length_drop, hc]; rfl)
  obtain ⟨fl, k4⟩ := ints_of_trod (n := 4) hdl q4 (by rw [List.length_take, List.length_drop, hc]; rfl)
  have one : ∀ (o : Nat) (v : Value), (cs.drop o).take 1 = [v] → cs[o]? = some v := fun o v hv => by
    have := congrArg (fun l : List Value => l[0]?) hv
    simpa [List.getElem?_take, List.getElem?_drop] using this
  have h586 : ∃ v, (cs.drop 586).take 1 = [v] := by
    match hq : (cs.drop 586).take 1, (show ((cs.drop 586).take 1).length = 1 by rw [List.length_take, List.length_drop, hc]; rfl) with
    | [v], _ => exact ⟨v, rfl⟩
  obtain ⟨v5, k5⟩ := h586
  rw [k5] at q5
  obtain ⟨hA, hn, hcap, hf, rfl, g1, g2, g3, g4⟩ := trod_int_rows hth hdh ce (by decide) q5
  refine ⟨⟨s.data.toList, n1, n2, fc, fl, hA, hn, hcap, hf⟩, fun j hj => ?_, ⟨g4, g1, g3, len_text hsz, g2⟩⟩
  unfold Fld.cells
  rw [get_cellsF _ _ _ hj]
  unfold Fld.val
  by_cases j0 : j = 0
  · rw [if_pos j0, j0, strT_of]; exact one 0 _ k0
  · rw [if_neg j0]
    by_cases j1 : j = 1
    · rw [if_pos j1, j1]; exact one 1 _ k1
    · rw [if_neg j1]
      by_cases j2 : j = 2
      · rw [if_pos j2, j2]; exact one 2 _ k2
      · rw [if_neg j2]
        by_cases j3 : j < 582
        · rw [if_pos j3]
          have := k3 (j - 3) (by omega)
          rw [List.getElem?_take, if_pos (by omega), List.getElem?_drop, show 3 + (j - 3) = j by omega] at this
          exact this
        · rw [if_neg j3]
          by_cases j4 : j < 586
          · rw [if_pos j4]
            have := k4 (j - 582) (by omega)
            rw [List.getElem?_take, if_pos (by omega), List.getElem?_drop, show 582 + (j - 582) = j by omega] at this
            exact this
          · rw [if_neg j4, show j = 586 by omega]; exact one 586 _ k5
instance : Inhabited Fld := ⟨⟨[], 0, 0, fun _ => 0, fun _ => 0, none, 0, 0, fun _ => 0⟩⟩
/-- A slice of fields. -/
theorem trod_flds {t e ts ti tc tl th eh : TypeId} {dc dl dh : Nat} {f0 f1 f2 f3 f4 f5 : Field} {fuel : Nat} {v : Value} {x : DataW H × List MemPlace} (ht : P.underlying t = some (.slice e)) (cf : P.cellsOf e = 587) (hs : P.underlying e = some (.struct #[f0, f1, f2, f3, f4, f5]))
    (h0 : f0.offset = 0 ∧ f0.type = ts) (h1 : f1.offset = 1 ∧ f1.type = ti) (h2 : f2.offset = 2 ∧ f2.type = ti) (h3 : f3.offset = 3 ∧ f3.type = tc) (h4 : f4.offset = 582 ∧ f4.type = tl) (h5 : f5.offset = 586 ∧ f5.type = th)
    (hts : P.underlying ts = some .string) (hti : P.underlying ti = some (.int .i64)) (hdc : deepInts P dc tc = true) (hdl : deepInts P dl tl = true) (hth : P.underlying th = some (.slice eh)) (hdh : deepInts P dh eh = true)
    (cs0 : P.cellsOf ts = 1) (ci : P.cellsOf ti = 1) (cc : P.cellsOf tc = 579) (cl : P.cellsOf tl = 4) (ch : P.cellsOf th = 1) (ce : P.cellsOf eh = 5)
    (hf : DataW.trod enc P w base spare held fuel t [v] = some x) :
    ∃ (a : Option Addr) (n c : Nat) (L : Nat → Fld), v = .slice a n c ∧ n ≤ c ∧ c ≤ 9223372036854775807 ∧ (a = none → c = 0) ∧ FldsIs w a n L := by
  rcases Deep.open_slice ht hf with ⟨hcs, _⟩ | ⟨y, len, cap, mm, n, D, Pl, hcs, hb, hl, hx0, hmm, _, hx⟩
  · injection hcs with hcs
    subst hcs
    exact ⟨none, 0, 0, fun _ => default, rfl, Nat.le_refl _, by omega, fun _ => rfl, ⟨fun i hi => absurd hi (by simp), fun i hi => absurd hi (by simp)⟩⟩
  · injection hcs with hcs
    subst hcs
    have hml : len ≤ mm := by rw [hmm]; split <;> omega
    rw [cf] at hx
    have key : ∀ i, ∃ F : Fld, i < len → (∀ j, j < 587 → w.cell? ((y.add (i * 587)).add j) = F.cells[j]?) ∧ FldOk w F := by
      intro i
      by_cases hi : i < len
      · obtain ⟨cs', g1, g2⟩ := hx i (by omega)
        obtain ⟨_, hlen, hcell⟩ := World.cells?_some g1
        obtain ⟨F, k1, k2⟩ := trod_fld hs h0 h1 h2 h3 h4 h5 hts hti hdc hdl hth hdh cs0 ci cc cl ch ce hlen g2
        exact ⟨F, fun _ => ⟨fun j hj => (hcell j (by omega)).trans (k1 j hj), k2⟩⟩
      · exact ⟨default, fun h => absurd h hi⟩
    refine ⟨some y, len, cap, fun i => (key i).choose, rfl, hl, by unfold maxLen at hx0; omega, fun h => (by cases h), ⟨fun i hi => ?_, fun i hi => ((key i).choose_spec hi).2⟩⟩
    have h1 := ((key i).choose_spec hi).1
    have hys : y.spot = none := by
      have h2 := ((key 0).choose_spec (by omega)).1 0 (by decide)
      rw [Fld.get0] at h2
      exact spot_first h2
    obtain ⟨b, o, sp⟩ := y
    obtain rfl : sp = none := hys
    refine ⟨b, o, rfl, fun j hj => ?_⟩
    have h2 := h1 j hj
    have e : ((⟨b, o, none⟩ : Addr).add (i * 587)).add j = ⟨b, o + i * 587 + j, none⟩ := by rw [Addr.add_lit, Addr.add_lit]
    exact (congrArg w.cell? e).symm.trans h2
theorem trod_msg {m e t ts ti tb tc tl th eh tp : TypeId} {dc dl dh : Nat} {f0 f1 f2 f3 f4 f5 g0 g1 g2 g3 g4 g5 g6 g7 p0 p1 p2 p3 p4 : Field} {fuel : Nat} {cs : List Value} {x : DataW H × List MemPlace}
    (hm : P.underlying m = some (.struct #[g0, g1, g2, g3, g4, g5, g6, g7])) (hp : P.underlying tp = some (.struct #[p0, p1, p2, p3, p4]))
    (k0 : g0.offset = 0 ∧ g0.type = ti) (k1 : g1.offset = 1 ∧ g1.type = ti) (k2 : g2.offset = 2 ∧ g2.type = ti) (k3 : g3.offset = 3 ∧ g3.type = ti) (k4 : g4.offset = 4 ∧ g4.type = ti) (k5 : g5.offset = 5 ∧ g5.type = tb) (k6 : g6.offset = 6 ∧ g6.type = t) (k7 : g7.offset = 7 ∧ g7.type = tp)
    (r0 : p0.offset = 0 ∧ p0.type = ti) (r1 : p1.offset = 1 ∧ p1.type = ts) (r2 : p2.offset = 2 ∧ p2.type = ts) (r3 : p3.offset = 3 ∧ p3.type = ti) (r4 : p4.offset = 4 ∧ p4.type = ti) (htb : P.underlying tb = some .bool)
    (cb : P.cellsOf tb = 1) (ct : P.cellsOf t = 1) (cp : P.cellsOf tp = 5) (ht : P.underlying t = some (.slice e)) (cf : P.cellsOf e = 587) (hs : P.underlying e = some (.struct #[f0, f1, f2, f3, f4, f5]))
    (h0 : f0.offset = 0 ∧ f0.type = ts) (h1 : f1.offset = 1 ∧ f1.type = ti) (h2 : f2.offset = 2 ∧ f2.type = ti) (h3 : f3.offset = 3 ∧ f3.type = tc) (h4 : f4.offset = 582 ∧ f4.type = tl) (h5 : f5.offset = 586 ∧ f5.type = th)
    (hts : P.underlying ts = some .string) (hti : P.underlying ti = some (.int .i64)) (hdc : deepInts P dc tc = true) (hdl : deepInts P dl tl = true) (hth : P.underlying th = some (.slice eh)) (hdh : deepInts P dh eh = true)
    (cs0 : P.cellsOf ts = 1) (ci : P.cellsOf ti = 1) (cc : P.cellsOf tc = 579) (cl : P.cellsOf tl = 4) (ch : P.cellsOf th = 1) (ce : P.cellsOf eh = 5) (hc : cs.length = 12) (h : DataW.trod enc P w base spare held fuel m cs = some x) :
    ∃ M : Msg, cs = M.cells.toList ∧ MsgOk w M := by
  obtain ⟨xs, n, _, _, hl, hxl, hg⟩ := DataW.trod_struct hm h
  match cs, hc with
  | [a0, a1, a2, a3, a4, a5, a6, b0, b1, b2, b3, b4], _ =>
    have q0 := hg 0 g0 rfl
    have q1 := hg 1 g1 rfl
    have q2 := hg 2 g2 rfl
    have q3 := hg 3 g3 rfl
    have q4 := hg 4 g4 rfl
    have q5 := hg 5 g5 rfl
    have q6 := hg 6 g6 rfl
    have q7 := hg 7 g7 rfl
    have hx : ∀ k, k < 8 → ∃ y, xs[k]? = some y := fun k hk => ⟨_, List.getElem?_eq_getElem (by rw [hxl]; exact hk)⟩
    obtain ⟨y0, e0⟩ := hx 0 (by decide)
    obtain ⟨y1, e1⟩ := hx 1 (by decide)
    obtain ⟨y2, e2⟩ := hx 2 (by decide)
    obtain ⟨y3, e3⟩ := hx 3 (by decide)
    obtain ⟨y4, e4⟩ := hx 4 (by decide)
    obtain ⟨y5, e5⟩ := hx 5 (by decide)
    obtain ⟨y6, e6⟩ := hx 6 (by decide)
    obtain ⟨y7, e7⟩ := hx 7 (by decide)
    rw [k0.1, k0.2, ci, e0] at q0
    rw [k1.1, k1.2, ci, e1] at q1
    rw [k2.1, k2.2, ci, e2] at q2
    rw [k3.1, k3.2, ci, e3] at q3
    rw [k4.1, k4.2, ci, e4] at q4
    rw [k5.1, k5.2, cb, e5] at q5
    rw [k6.1, k6.2, ct, e6] at q6
    rw [k7.1, k7.2, cp, e7] at q7
    obtain ⟨n0, l0, _, _⟩ := DataW.trod_int hti q0
    obtain ⟨n1, l1, _, _⟩ := DataW.trod_int hti q1
    obtain ⟨n2, l2, _, _⟩ := DataW.trod_int hti q2
    obtain ⟨n3, l3, _, _⟩ := DataW.trod_int hti q3
    obtain ⟨n4, l4, _, _⟩ := DataW.trod_int hti q4
    obtain ⟨n5, l5, _⟩ := DataW.trod_bool htb q5
    simp at l0 l1 l2 l3 l4 l5
    obtain ⟨fA, fn, fc, fl, l6, i1, i2, i3, i4⟩ := trod_flds (v := a6) ht cf hs h0 h1 h2 h3 h4 h5 hts hti hdc hdl hth hdh cs0 ci cc cl ch ce (by simpa using q6)
    obtain ⟨ys, n', _, _, hl', hyl, hg'⟩ := DataW.trod_struct hp q7
    have s0 := hg' 0 p0 rfl
    have s1 := hg' 1 p1 rfl
    have s2 := hg' 2 p2 rfl
    have s3 := hg' 3 p3 rfl
    have s4 := hg' 4 p4 rfl
    have hy : ∀ k, k < 5 → ∃ y, ys[k]? = some y := fun k hk => ⟨_, List.getElem?_eq_getElem (by rw [hyl]; exact hk)⟩
    obtain ⟨z0, d0⟩ := hy 0 (by decide)
    obtain ⟨z1, d1⟩ := hy 1 (by decide)
    obtain ⟨z2, d2⟩ := hy 2 (by decide)
    obtain ⟨z3, d3⟩ := hy 3 (by decide)
    obtain ⟨z4, d4⟩ := hy 4 (by decide)
    rw [r0.1, r0.2, ci, d0] at s0
    rw [r1.1, r1.2, cs0, d1] at s1
    rw [r2.1, r2.2, cs0, d2] at s2
    rw [r3.1, r3.2, ci, d3] at s3
    rw [r4.1, r4.2, ci, d4] at s4
    obtain ⟨o0, t0, _, _⟩ := DataW.trod_int hti s0
    obtain ⟨o1, t1, _, u1⟩ := DataW.trod_string hts s1
    obtain ⟨o2, t2, _, u2⟩ := DataW.trod_string hts s2
    obtain ⟨o3, t3, _, _⟩ := DataW.trod_int hti s3
    obtain ⟨o4, t4, _, _⟩ := DataW.trod_int hti s4
    simp at t0 t1 t2 t3 t4
    subst l0 l1 l2 l3 l4 l5 l6 t0 t1 t2 t3 t4
    exact ⟨⟨n0, n1, n2, n3, n4, n5, fA, fn, fc, fl, o0, o1.data.toList, o2.data.toList, o3, o4⟩, by simp [Msg.cells, strT_of], ⟨i4, i1, i3, len_text u1, len_text u2, i2⟩⟩
/-- An argument that is a struct. -/
theorem open_struct {t : TypeId} {r : Reach} {b0 n : Nat} {v : Value} {x : DataW H} {ps : List MemPlace} (ht : (match P.underlying t with | some (.struct _) => true | _ => false) = true) (hn : P.cellsOf t = n)
    (hv : Value.okWide P w r b0 t v) (h : DataW.Trod enc P w base spare held t v x ps) : ∃ cs : Array Value, v = .agg cs ∧ cs.toList.length = n ∧ ∃ fuel, DataW.trod enc P w base spare held fuel t cs.toList = some (x, ps) := by
  have hv' : ∃ cs, v = .agg cs ∧ cs.size = P.cellsOf t := by
    unfold Value.okWide at hv
    split at hv
    · obtain ⟨cs, h1, h2, _⟩ := hv; exact ⟨cs, h1, h2⟩
    · obtain ⟨cs, h1, h2, _⟩ := hv; exact ⟨cs, h1, h2⟩
    · rename_i h1 h2
      split at ht
      · rename_i fs he; exact absurd he (h1 fs)
      · cases ht
  obtain ⟨cs, rfl, hs⟩ := hv'
  obtain ⟨fuel, hf⟩ := h
  exact ⟨cs, rfl, by simpa using hs.trans hn, fuel, hf⟩
end
end Go.Proofs.YtinhaipnmmgplaaGreat

/-
  A slice of bytes that came in.
-/
namespace Go.Proofs.YtinhaipnmmgplaaGreat
set_option maxRecDepth 20000
open Go.ChangeShapes Go.WideShapes Go.ChangeAt Go.RowKit
section
variable {H : Type} {enc : TypeId × Value → H} {P : Program} {w : World} {base : Nat} {spare : Nat → Bool} {held : Bool}
theorem trod_bytes {t e : TypeId} {fuel : Nat} {v : Value} {x : DataW H × List MemPlace} (ht : P.underlying t = some (.slice e)) (he : P.underlying e = some (.int .u8)) (hC : P.cellsOf e = 1) (hf : DataW.trod enc P w base spare held fuel t [v] = some x) :
    ∃ (a : Option Addr) (cap : Nat) (l : List UInt8), v = .slice a l.length cap ∧ (l.length ≤ 9223372036854775807 ∧ (a = none → cap = 0 ∧ l = []) ∧ l.length ≤ cap) ∧ IsBy w a l := by
  rcases open_ints ht he hC hf with ⟨hcs, _⟩ | ⟨y, len, cap, zs, hcs, _, hl, hm, hz, _, hcell, hwz⟩
  · injection hcs with hcs
    subst hcs
    exact ⟨none, 0, [], rfl, ⟨by simp, fun _ => ⟨rfl, rfl⟩, by simp⟩, IsBy.nil _ _⟩
  · injection hcs with hcs
    subst hcs
    have hzl : len ≤ zs.length := by rw [hz]; split <;> omega
    have hlen : ((zs.take len).map fun n => UInt8.ofNat n.toNat).length = len := by simp; omega
    refine ⟨some y, cap, (zs.take len).map fun n => UInt8.ofNat n.toNat, by rw [hlen], ⟨by rw [hlen]; unfold maxLen at hm; omega, fun h => (by cases h), by rw [hlen]; exact hl⟩, fun i hi => ?_⟩
    rw [hlen] at hi
    have h0 := hcell 0 (by omega)
    obtain ⟨b, o, sp⟩ := y
    have hsp : sp = none := by
      have := World.cell?_spot h0
      simpa [Addr.add] using this
    subst hsp
    refine ⟨b, o, rfl, ?_⟩
    have h1 := hcell i (by omega)
    rw [Addr.add_lit] at h1
    rw [h1]
    have hw := bounds_u8 (hwz (zs.getD i 0) (by rw [List.getD, List.getElem?_eq_getElem (show i < zs.length by omega)]; exact List.getElem_mem _))
    have e1 : ((zs.take len).map fun n => UInt8.ofNat n.toNat).getD i 0 = UInt8.ofNat (zs.getD i 0).toNat := by
      simp [List.getD, hi, List.getElem?_eq_getElem (show i < zs.length by omega)]
    rw [e1, bc, UInt8.toNat_ofNat']
    congr 2
    rw [Nat.mod_eq_of_lt (by omega)]
    omega
/-- What a slice of slices of bytes leads to. -/
structure Texts (w : World) (A : Option Addr) (L : Nat) (V : Nat → Option Addr × Nat × List UInt8) : Prop where
  cell : ∀ i, i < L → ∃ b o, A = some ⟨b, o, none⟩ ∧ w.cell? ⟨b, o + i, none⟩ = some (.slice (V i).1 (V i).2.2.length (V i).2.1)
  by_ : ∀ i, i < L → IsBy w (V i).1 (V i).2.2
  cap : ∀ i, i < L → (V i).2.2.length ≤ (V i).2.1
  nil : ∀ i, i < L → (V i).1 = none → (V i).2.1 = 0
theorem open_slice_texts {t e u : TypeId} {r : Reach} {b0 : Nat} {v : Value} {x : DataW H} {ps : List MemPlace} (ht : P.underlying t = some (.slice e)) (he : P.underlying e = some (.slice u)) (hu : P.underlying u = some (.int .u8)) (hC : P.cellsOf e = 1) (hC2 : P.cellsOf u = 1)
    (hv : Value.okWide P w r b0 t v) (h : DataW.Trod enc P w base spare held t v x ps) :
    ∃ (a : Option Addr) (cap L : Nat) (V : Nat → Option Addr × Nat × List UInt8), v = .slice a L cap ∧ (L ≤ 9223372036854775807 ∧ (a = none → cap = 0 ∧ L = 0) ∧ L ≤ cap) ∧ Texts w a L V := by
  obtain ⟨a, len, cap, rfl⟩ := okWide_slice ht hv
  obtain ⟨fuel, hf⟩ := h
  rcases Go.Deep.open_slice1 ht hC hf with ⟨hcs, _⟩ | ⟨y, l, c, m, n, V, D, Pl, hcs, hb, hl, hm, hmm, _, hx⟩
  · simp [Value.cells] at hcs
    obtain ⟨rfl, rfl, rfl⟩ := hcs
    exact ⟨none, 0, 0, fun _ => (none, 0, []), rfl, ⟨by omega, fun _ => ⟨rfl, rfl⟩, by omega⟩, ⟨fun i hi => absurd hi (Nat.not_lt_zero _), fun i hi => absurd hi (Nat.not_lt_zero _), fun i hi => absurd hi (Nat.not_lt_zero _), fun i hi => absurd hi (Nat.not_lt_zero _)⟩⟩
  · simp [Value.cells] at hcs
    obtain ⟨rfl, rfl, rfl⟩ := hcs
    have hml : len ≤ m := by rw [hmm]; split <;> omega
    have key : ∀ i, ∃ z : Option Addr × Nat × List UInt8, i < len → V i = .slice z.1 z.2.2.length z.2.1 ∧ IsBy w z.1 z.2.2 ∧ z.2.2.length ≤ z.2.1 ∧ (z.1 = none → z.2.1 = 0) := by
      intro i
      by_cases hi : i < len
      · obtain ⟨a2, c2, l2, h1, h2, h3⟩ := trod_bytes he hu hC2 (hx i (by omega)).2
        exact ⟨(a2, c2, l2), fun _ => ⟨h1, h3, h2.2.2, fun h => (h2.2.1 h).1⟩⟩
      · exact ⟨(none, 0, []), fun h => absurd h hi⟩
    refine ⟨some y, cap, len, fun i => (key i).choose, rfl, ⟨by unfold maxLen at hm; omega, fun h => (by cases h), hl⟩, ⟨fun i hi => ?_, fun i hi => ((key i).choose_spec hi).2.1, fun i hi => ((key i).choose_spec hi).2.2.1, fun i hi => ((key i).choose_spec hi).2.2.2⟩⟩
    have h0 := (hx 0 (by omega)).1
    obtain ⟨b, o, sp⟩ := y
    have hsp : sp = none := by
      have := World.cell?_spot h0
      simpa [Addr.add] using this
    subst hsp
    have h1 := (hx i (by omega)).1
    rw [Addr.add_lit] at h1
    exact ⟨b, o, rfl, h1.trans (congrArg some ((key i).choose_spec hi).1)⟩
theorem open_slice_bytes {t e : TypeId} {r : Reach} {b0 : Nat} {v : Value} {x : DataW H} {ps : List MemPlace} (ht : P.underlying t = some (.slice e)) (he : P.underlying e = some (.int .u8)) (hC : P.cellsOf e = 1)
    (hv : Value.okWide P w r b0 t v) (h : DataW.Trod enc P w base spare held t v x ps) :
    ∃ (a : Option Addr) (cap : Nat) (l : List UInt8), v = .slice a l.length cap ∧ (l.length ≤ 9223372036854775807 ∧ (a = none → cap = 0 ∧ l = []) ∧ l.length ≤ cap) ∧ IsBy w a l := by
  obtain ⟨a, len, cap, rfl⟩ := okWide_slice ht hv
  obtain ⟨fuel, hf⟩ := h
  rcases open_ints ht he hC hf with ⟨hcs, _⟩ | ⟨y, l, c, zs, hcs, _, hl, hm, hz, _, hcell, hwz⟩
  · simp [Value.cells] at hcs
    obtain ⟨rfl, rfl, rfl⟩ := hcs
    exact ⟨none, 0, [], rfl, ⟨by simp, fun _ => ⟨rfl, rfl⟩, by simp⟩, IsBy.nil _ _⟩
  · simp [Value.cells] at hcs
    obtain ⟨rfl, rfl, rfl⟩ := hcs
    have hzl : len ≤ zs.length := by rw [hz]; split <;> omega
    have hlen : ((zs.take len).map fun n => UInt8.ofNat n.toNat).length = len := by simp; omega
    refine ⟨some y, cap, (zs.take len).map fun n => UInt8.ofNat n.toNat, by rw [hlen], ⟨by rw [hlen]; unfold maxLen at hm; omega, fun h => (by cases h), by rw [hlen]; exact hl⟩, fun i hi => ?_⟩
    rw [hlen] at hi
    have h0 := hcell 0 (by omega)
    obtain ⟨b, o, sp⟩ := y
    have hsp : sp = none := by
      have := World.cell?_spot h0
      simpa [Addr.add] using this
    subst hsp
    refine ⟨b, o, rfl, ?_⟩
    have h1 := hcell i (by omega)
    rw [Addr.add_lit] at h1
    rw [h1]
    have hw := bounds_u8 (hwz (zs.getD i 0) (by rw [List.getD, List.getElem?_eq_getElem (show i < zs.length by omega)]; exact List.getElem_mem _))
    have e1 : ((zs.take len).map fun n => UInt8.ofNat n.toNat).getD i 0 = UInt8.ofNat (zs.getD i 0).toNat := by
      simp [List.getD, hi, List.getElem?_eq_getElem (show i < zs.length by omega)]
    rw [e1, bc, UInt8.toNat_ofNat']
    congr 2
    rw [Nat.mod_eq_of_lt (by omega)]
    omega
end
end Go.Proofs.YtinhaipnmmgplaaGreat
