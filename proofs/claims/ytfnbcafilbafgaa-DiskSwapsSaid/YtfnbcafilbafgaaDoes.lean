/-
  Layer 11 (disk): a step in the disk and in the reference.
-/
import Derived.Test.YtfnbcafilbafgaaAwake11
import Derived.Test.YtfnbcafilbafgaaHeld
namespace Go.Proofs.Ytfnbcafilbafgaa
open Go.RowKit
set_option linter.unusedSimpArgs false
section
variable (ρ : Operand → Value) (d : Option Tmp) (T : TypeId) (p : String) (af : Array Edge) (gd : Option (Nat × Bool)) (x y : Operand) (w : World)
theorem xstore_ref : (execOp ρ ⟨d, .store 35 x y, T, p, af, gd⟩).run Try.prog w = storeAgg Try.prog w 35 (ρ x) (ρ y) := rfl
theorem xload_ref : (execOp ρ ⟨d, .load 35 x, T, p, af, gd⟩).run Try.prog w = loadAgg Try.prog w 35 (ρ x) := rfl
theorem xalloc_ref : (execOp ρ ⟨d, .alloc 35, T, p, af, gd⟩).run Try.prog w = .ok (.value (.pointer (some ⟨w.heap.size, 0, none⟩))) (w.alloc (.cells #[.int .i64 0, .int .i64 0, .slice none 0 0] 35)) :=
  (exec_alloc ..).trans (allocAgg_ok (by kernel_rfl))
theorem xload_do11 : (execOp ρ ⟨d, .load 37 x, T, p, af, gd⟩).run Try.prog w = loadAgg Try.prog w 37 (ρ x) := rfl
theorem xstore_do11 : (execOp ρ ⟨d, .store 37 x y, T, p, af, gd⟩).run Try.prog w = storeAgg Try.prog w 37 (ρ x) (ρ y) := rfl
theorem xalloc_do11 : (execOp ρ ⟨d, .alloc 37, T, p, af, gd⟩).run Try.prog w = .ok (.value (.pointer (some ⟨w.heap.size, 0, none⟩))) (w.alloc (.cells #[.int .i64 0, .int .i64 0, .int .i64 0, .slice none 0 0] 37)) :=
  (exec_alloc ..).trans (allocAgg_ok (by kernel_rfl))
end
theorem load_ref (w : World) (g : Nat) (h : (rowAt w g).isSome = true) (hn : 0 + 3 ≤ (rowCells w g).size) :
    loadAgg Try.prog w 35 (.pointer (some ⟨g, 0, none⟩)) = .ok (.value (.agg ((rowCells w g).extract 0 (0 + 3)))) w := loadAgg_row Try.underlying35 rfl (by kernel_rfl) h hn
theorem store_ref (w : World) (g : Nat) (a b : Int) (A : Option Addr) (n c : Nat) (h : (rowAt w g).isSome = true) (hn : 0 + 3 ≤ (rowCells w g).size) :
    storeAgg Try.prog w 35 (.pointer (some ⟨g, 0, none⟩)) (.agg #[.int .i64 a, .int .i64 b, .slice A n c]) = .ok .skip (w.setRow g (splice (rowCells w g) 0 #[.int .i64 a, .int .i64 b, .slice A n c])) :=
  storeAgg_row (by kernel_rfl) (by simp [Value.oneCell']) h hn
theorem cut3 (a b c : Value) : (#[a, b, c] : Array Value).extract 0 (0 + 3) = #[a, b, c] := rfl
theorem splice3 (a b c x y z : Value) : splice #[a, b, c] 0 #[x, y, z] = #[x, y, z] := rfl
/-- What a step leaves. -/
def stepL (s : Int) (l : List UInt8) (f : Nat) (V N M : Int) (t : List UInt8) : List UInt8 :=
  if V = 0 then (if s < l.length + t.length then l else l ++ t)
  else if V = 1 then l
  else if V = 2 then (if N < 0 ∨ (l.length : Int) < N then l else l.take N.toNat)
  else if V = 3 then (if s < t.length then l else t)
  else if V = 4 then l.take (crashI l.length f N M).toNat
  else l
def stepF (s : Int) (l : List UInt8) (f : Nat) (V N M : Int) (t : List UInt8) : Nat :=
  if V = 0 then f
  else if V = 1 then l.length
  else if V = 2 then (if N < 0 ∨ (l.length : Int) < N then f else (minI f N).toNat)
  else if V = 3 then (if s < t.length then f else t.length)
  else if V = 4 then (crashI l.length f N M).toNat
  else f
/-- Block g holds no bytes. -/
def NoBy (w : World) (g : Nat) : Prop := ∀ j y, w.cell? ⟨g, j, none⟩ ≠ some (bc y)
theorem noBy3 {w : World} {g : Nat} {a b : Int} {A : Option Addr} {n c : Nat} {T : TypeId} (h : rowAt w g = some (#[.int .i64 a, .int .i64 b, .slice A n c], T)) : NoBy w g := by
  intro j y
  rw [cell_of_rowAt h]
  rcases j with _ | _ | _ | j <;> simp [bc]
theorem isBy_off {w w' : World} {g : Nat} {A : Option Addr} {t : List UInt8} (ht : IsBy w A t) (hg : NoBy w g) (hb : Bt g w w') : IsBy w' A t := by
  intro i hi
  obtain ⟨b, o, g1, g2⟩ := ht i hi
  have hne : b ≠ g := by rintro rfl; exact hg _ _ g2
  exact ⟨b, o, g1, (hb.cell (World.block_lt_of_cell? _ _ g2) hne).trans g2⟩
theorem dk_off {w w' : World} {p g : Nat} {s f : Int} {l : List UInt8} (h : DK w p s l f) (hg : NoBy w g) (hb : Bt g w w') (hp : p ≠ g) : DK w' p s l f := by
  obtain ⟨A, c, h1, h2, h3, h4⟩ := h
  exact ⟨A, c, (hb.row (rowAt_lt h1) hp).trans h1, isBy_off h2 hg hb, h3, h4⟩
theorem Bt.setRow (g : Nat) (w : World) (cs : Array Value) : Bt g w (w.setRow g cs) :=
  ⟨rfl, rfl, rfl, by simp [World.setRow], fun k _ hn => setRow_other w g k cs hn⟩
theorem Bt.late {p g : Nat} {w w1 w2 : World} (h : Bt p w w1) (hb : Bt g w1 w2) (hg : w.heap.size ≤ g) : Bt p w w2 :=
  ⟨hb.os.trans h.os, hb.tape.trans h.tape, hb.output.trans h.output, Nat.le_trans h.size hb.size, fun k hk hn => (hb.block k (Nat.lt_of_lt_of_le hk h.size) (by omega)).trans (h.block k hk hn)⟩
attribute [local go_sem] rowCells rowAt_alloc rowAt_drew rowAt_setRow rowAt_setCell setRow_alloc load_ref store_ref cut3 splice3
attribute [local go_sem ↓] xstore_ref xload_ref xalloc_ref
set_option maxRecDepth 10000 in
set_option maxHeartbeats 4000000 in
theorem rapp_full {w : World} {s fR : Int} {lR t : List UInt8} {AR B : Option Addr} {cR ct : Nat} (hlR : (lR.length : Int) ≤ 1048576) (ht4 : t.length ≤ 400) (hn : s < lR.length + t.length) :
    Calls Try.prog 22 #[.agg #[.int .i64 s, .int .i64 fR, .slice AR lR.length cR], .slice B t.length ct] w fun e w' =>
      e = .returned (.tuple #[.agg #[.int .i64 s, .int .i64 fR, .slice AR lR.length cR], .bool false]) ∧ Below w.heap.size w w' := by
  have g1 : decide (s < lR.length + t.length) = true := decide_eq_true hn
  clear hn
  go_enter Try.func22, Try.ntmps22
  go_wp2_with fail
  refine ret_ct rfl rfl rfl rfl (by simp [go_sem, *]; rfl) ?_
  exact ⟨rfl, ((Below.refl _ _).alloc (Nat.le_refl _) _).alloc (by simp) _⟩
set_option maxRecDepth 10000 in
set_option maxHeartbeats 4000000 in
theorem rapp_ok {w : World} {s fR : Int} {lR t : List UInt8} {AR B : Option Addr} {cR ct : Nat} (hlR : (lR.length : Int) ≤ 1048576) (ht4 : t.length ≤ 400) (hn : ¬ s < lR.length + t.length) (hR : IsBy w AR lR) (hRn : AR = none → cR = 0) (ht : IsBy w B t) (htn : B = none → ct = 0) :
    Calls Try.prog 22 #[.agg #[.int .i64 s, .int .i64 fR, .slice AR lR.length cR], .slice B t.length ct] w fun e w' =>
      ∃ A' c', e = .returned (.tuple #[.agg #[.int .i64 s, .int .i64 fR, .slice A' (lR ++ t).length c'], .bool true]) ∧ IsBy w' A' (lR ++ t) ∧ (lR ++ t).length ≤ c' ∧ (A' = none → c' = 0) ∧ Below w.heap.size w w' := by
  have g1 : decide (s < lR.length + t.length) = false := decide_eq_false hn
  have HR := Lib.hid hR
  have HT := Lib.hid ht
  have HRN := Lib.hid hRn
  have HTN := Lib.hid htn
  clear hn hR ht hRn htn
  go_enter Try.func22, Try.ntmps22
  go_upto_region 3 with fail
  have r1 : rowAt ((w.alloc (.cells #[.int .i64 s, .int .i64 fR, .slice AR lR.length cR] 35)).alloc (.cells #[.int .i64 0, .int .i64 0, .slice none 0 0] 35)) w.heap.size = some (#[.int .i64 s, .int .i64 fR, .slice AR lR.length cR], 35) := by simp [rowAt_alloc] <;> omega
  have r2 : rowAt ((w.alloc (.cells #[.int .i64 s, .int .i64 fR, .slice AR lR.length cR] 35)).alloc (.cells #[.int .i64 0, .int .i64 0, .slice none 0 0] 35)) (w.heap.size + 1) = some (#[.int .i64 0, .int .i64 0, .slice none 0 0], 35) := by simp [rowAt_alloc]
  have hb0 : Below w.heap.size w ((w.alloc (.cells #[.int .i64 s, .int .i64 fR, .slice AR lR.length cR] 35)).alloc (.cells #[.int .i64 0, .int .i64 0, .slice none 0 0] 35)) := ((Below.refl _ _).alloc (Nat.le_refl _) _).alloc (by simp) _
  generalize (w.alloc (.cells #[.int .i64 s, .int .i64 fR, .slice AR lR.length cR] 35)).alloc (.cells #[.int .i64 0, .int .i64 0, .slice none 0 0] 35) = W at *
  have HB0 := Lib.hid hb0
  have c2 : W.cell? ⟨w.heap.size, 2, none⟩ = some (.slice AR lR.length cR) := by rw [cell_of_rowAt r1]; rfl
  have R1 := Lib.hid r1
  have R2 := Lib.hid r2
  have hlt1 := rowAt_lt r1
  have hlt2 := rowAt_lt r2
  clear hb0 r1 r2
  go_wp2_with (at_builtin; refine wl_append_bytes rfl _ _ rfl W.heap.size _ [] lR AR cR rfl ?c1 rfl ?c2 HRN.out ?c3 ?c4 ?_)
  case c1 => exact OwnBy.row (xs := []) (rowAt_alloc_at _ _ _ _ rfl) (by decide)
  case c2 => exact (HR.out.below HB0.out).alloc _
  case c3 => simp; omega
  case c4 => simp
  intro v' w2 hown hb
  have hb2 : Below W.heap.size W w2 := ((Below.refl _ _).alloc (Nat.le_refl _) _).trans hb
  have HO2 := Lib.hid hown
  have HT2 := Lib.hid ((HT.out.below HB0.out).below hb2)
  have R12 := Lib.hid (rowKeep hb2 R1.out)
  have R22 := Lib.hid (rowKeep hb2 R2.out)
  have HB2 := Lib.hid (bthen HB0.out hb2)
  have hsz := hb2.size
  clear hown hb hb2 c2
  go_wp2_with (at_builtin; refine wl_append_bytes rfl _ _ rfl W.heap.size _ lR t B ct rfl HO2.out rfl HT2.out HTN.out ?c1 hsz ?_)
  case c1 => omega
  intro v3 w3 hown hb
  have r1 := (rowAt_below hb _ hlt1).trans R12.out
  have r2 := (rowAt_below hb _ hlt2).trans R22.out
  have HB3 := Lib.hid (HB2.out.trans (hb.mono (Nat.le_of_lt (Nat.lt_of_le_of_lt (Nat.le_refl _) hlt1))))
  have hxl : (lR ++ t).length ≤ 140737488355328 := by rw [List.length_append]; omega
  obtain ⟨X, hX⟩ : ∃ X, lR ++ t = X := ⟨_, rfl⟩
  rw [hX] at hown hxl
  have HX := Lib.hid hX
  clear hX
  obtain ⟨A3, c3, rfl, i1, i2, i3, _⟩ := hown.isBy
  have I1 := Lib.hid i1
  have I2 := Lib.hid i2
  have k2 : w3.cell? ⟨w.heap.size, 2, none⟩ = some (.slice AR lR.length cR) := by rw [cell_of_rowAt r1]; rfl
  have k3 : w3.frozen? ⟨w.heap.size, 2, none⟩ = false := frozen_of_rowAt r1 2
  have e1 : rowAt (w3.setCell ⟨w.heap.size, 2, none⟩ (.slice A3 X.length c3)) w.heap.size = some (#[.int .i64 s, .int .i64 fR, .slice A3 X.length c3], 35) := by rw [rowAt_setCell, if_pos rfl, r1]; rfl
  have e2 : rowAt (w3.setCell ⟨w.heap.size, 2, none⟩ (.slice A3 X.length c3)) (w.heap.size + 1) = some (#[.int .i64 0, .int .i64 0, .slice none 0 0], 35) := by rw [rowAt_setCell, if_neg (by omega), r2]
  have HN1 := Lib.hid (noBy3 r1)
  have HN2 := Lib.hid (noBy3 e2)
  have HBS := Lib.hid (Bt.setCell w.heap.size 2 w3 (.slice A3 X.length c3))
  have hsz3 := HB3.out.size
  clear hown hb i1 i2 r1 r2
  have hz2 : w.heap.size ≤ w.heap.size + 1 := Nat.le_succ _
  go_wp2_with fail
  refine ret_ct rfl rfl rfl rfl (by simp [go_sem, *]; rfl) ?_
  rw [HX.out]
  exact ⟨A3, c3, rfl, isBy_off (isBy_off I1.out HN1.out HBS.out) HN2.out (Bt.setRow _ _ _), i3, I2.out, below_setRow' (below_setCell' HB3.out (Nat.le_refl _)) hz2 _⟩
/-- The reference's loops reckon the same end. -/
theorem crash_eq {n f k j : Nat} {a b : Int} (hn : n ≤ 1048576) (hf : f ≤ n) (h1 : k = 0 ∨ ((k : Int) - 1 < a ∧ f / 64 * 64 + 64 * (k - 1) < n)) (h2 : ¬ ((k : Int) < a ∧ f / 64 * 64 + 64 * k < n)) {m : Int} (hm : m = maxI ((f / 64 * 64 + 64 * k : Nat) : Int) f)
    (h3 : j = 0 ∨ ((j : Int) - 1 < b ∧ m + ((j : Int) - 1) < n)) (h4 : ¬ ((j : Int) < b ∧ m + j < n)) : minI (m + j) n = crashI n f a b := by
  have e1 : (f : Int) / 64 = ((f / 64 : Nat) : Int) := by omega
  unfold crashI bndI
  rw [e1]
  generalize hq : f / 64 = q at *
  have hq1 : 64 * q ≤ f := by omega
  have hq2 : f < 64 * q + 64 := by omega
  unfold maxI minI at *
  split at hm <;> (repeat' split) <;> omega
set_option maxRecDepth 10000 in
set_option maxHeartbeats 8000000 in
theorem rcrash_any {w : World} {f K0 : Nat} {s a b : Int} {lR : List UInt8} {AR : Option Addr} {cR : Nat} (hlR : lR.length ≤ 1048576) (hf : f ≤ lR.length) (hR : IsBy w AR lR) (hRc : lR.length ≤ cR) (hRn : AR = none → cR = 0) (hK0 : (crashI lR.length f a b).toNat = K0) :
    Calls Try.prog 23 #[.agg #[.int .i64 s, .int .i64 f, .slice AR lR.length cR], .int .i64 a, .int .i64 b] w fun e w' =>
      ∃ A' c', e = .returned (.agg #[.int .i64 s, .int .i64 K0, .slice A' K0 c']) ∧ IsBy w' A' (lR.take K0) ∧ K0 ≤ c' ∧ (A' = none → c' = 0) ∧ Below w.heap.size w w' := by
  have HR := Lib.hid hR
  have HRN := Lib.hid hRn
  have HK0 := Lib.hid hK0
  clear hR hRn hK0
  go_enter Try.func23, Try.ntmps23
  go_upto_region 1 with fail
  have r1 : rowAt ((w.alloc (.cells #[.int .i64 s, .int .i64 f, .slice AR lR.length cR] 35)).alloc (.cells #[.int .i64 0, .int .i64 0, .slice none 0 0] 35)) w.heap.size = some (#[.int .i64 s, .int .i64 f, .slice AR lR.length cR], 35) := by simp [rowAt_alloc] <;> omega
  have r2 : rowAt ((w.alloc (.cells #[.int .i64 s, .int .i64 f, .slice AR lR.length cR] 35)).alloc (.cells #[.int .i64 0, .int .i64 0, .slice none 0 0] 35)) (w.heap.size + 1) = some (#[.int .i64 0, .int .i64 0, .slice none 0 0], 35) := by simp [rowAt_alloc]
  have hb0 : Below w.heap.size w ((w.alloc (.cells #[.int .i64 s, .int .i64 f, .slice AR lR.length cR] 35)).alloc (.cells #[.int .i64 0, .int .i64 0, .slice none 0 0] 35)) := ((Below.refl _ _).alloc (Nat.le_refl _) _).alloc (by simp) _
  generalize (w.alloc (.cells #[.int .i64 s, .int .i64 f, .slice AR lR.length cR] 35)).alloc (.cells #[.int .i64 0, .int .i64 0, .slice none 0 0] 35) = W at *
  have HB0 := Lib.hid hb0
  have HR0 := Lib.hid (HR.out.below hb0)
  have c1 : W.cell? ⟨w.heap.size, 1, none⟩ = some (.int .i64 f) := by rw [cell_of_rowAt r1]; rfl
  have c2 : W.cell? ⟨w.heap.size, 2, none⟩ = some (.slice AR lR.length cR) := by rw [cell_of_rowAt r1]; rfl
  have R1 := Lib.hid r1
  have R2 := Lib.hid r2
  clear hb0 r1 r2 HR
  go_wp2_with fail
  go_loop [7, 8] (fun x i => ∃ k : Nat, i = .int .i64 k ∧ x = .int .i64 ((f / 64 * 64 + 64 * k : Nat) : Int) ∧ (k = 0 ∨ ((k : Int) - 1 < a ∧ f / 64 * 64 + 64 * (k - 1) < lR.length))) (fun x _ => lR.length + 64 - (intOf x).toNat)
  case atStart => exact ⟨0, rfl, congrArg (Value.int .i64) (by omega), Or.inl rfl⟩
  case round =>
    obtain ⟨k, rfl, rfl, hk⟩ := hrel
    have HK1 := Lib.hid hk
    have hkb : f / 64 * 64 + 64 * k ≤ 2097152 := by omega
    have hkk : k ≤ 32768 := by omega
    clear hk
    by_cases hg : (k : Int) < a ∧ f / 64 * 64 + 64 * k < lR.length
    · obtain ⟨ha1, ha2⟩ := hg
      have g1 : decide ((k : Int) < a) = true := decide_eq_true ha1
      have g2 : decide (((f / 64 * 64 + 64 * k : Nat) : Int) < (lR.length : Int)) = true := decide_eq_true (by omega)
      have hnx : f / 64 * 64 + 64 * (k + 1) = f / 64 * 64 + 64 * k + 64 := by omega
      have HNX := Lib.hid hnx
      clear hnx
      have HGA := Lib.hid ha1
      have HGB := Lib.hid ha2
      clear ha1 ha2
      generalize hN : f / 64 * 64 + 64 * k = N at *
      go_wp2_with fail
      go_round
      case rel => exact ⟨k + 1, by go_num, by rw [HNX.out]; exact congrArg (Value.int .i64) (by omega), Or.inr ⟨by have := HGA.out; omega, by rw [Nat.add_sub_cancel, hN]; exact HGB.out⟩⟩
      case measure => have := HGB.out; simp [intOf]; omega
    · have HG := Lib.hid hg
      obtain ⟨N1, hN1⟩ : ∃ N1 : Nat, f / 64 * 64 + 64 * k = N1 := ⟨_, rfl⟩
      have hcond : ((k : Int) < a → False) ∨ ((k : Int) < a ∧ lR.length ≤ N1) := by
        by_cases hka : (k : Int) < a
        · exact Or.inr ⟨hka, by have := fun h => hg ⟨hka, h⟩; omega⟩
        · exact Or.inl hka
      rw [hN1]
      obtain ⟨m, hm⟩ : ∃ m : Nat, (m : Int) = maxI (N1 : Int) f := by
        obtain ⟨m, hm⟩ := Int.eq_ofNat_of_zero_le (show 0 ≤ maxI (N1 : Int) f by unfold maxI; split <;> omega)
        exact ⟨m, hm.symm⟩
      have hmb : m ≤ 2097152 := by unfold maxI at hm; split at hm <;> omega
      have HM := Lib.hid hm
      have HN1 := Lib.hid hN1
      clear hg hm
      rcases hcond with hka | ⟨hka, hln⟩
      · have g1 : decide ((k : Int) < a) = false := decide_eq_false hka
        clear hka
        go_upto_region 7 with fail
        rw [show (if N1 < f then (f : Int) else (N1 : Int)) = (m : Int) from by rw [HM.out]; unfold maxI; split <;> split <;> omega]
        go_wp2_with fail
        go_loop [7, 9] (fun x i => ∃ j : Nat, i = .int .i64 j ∧ x = .int .i64 ((m + j : Nat) : Int) ∧ (j = 0 ∨ ((j : Int) - 1 < b ∧ (m : Int) + ((j : Int) - 1) < lR.length))) (fun x _ => lR.length + 1 - (intOf x).toNat)
        case atStart => exact ⟨0, rfl, rfl, Or.inl rfl⟩
        case round =>
          obtain ⟨j, rfl, rfl, hj⟩ := hrel
          have HJ := Lib.hid hj
          have hjb : m + j ≤ 4194304 := by omega
          clear hj
          by_cases hg2 : (j : Int) < b ∧ m + j < lR.length
          · obtain ⟨hb1, hb2⟩ := hg2
            have q1 : decide ((j : Int) < b) = true := decide_eq_true hb1
            have q2 : decide (((m + j : Nat) : Int) < (lR.length : Int)) = true := decide_eq_true (by omega)
            have hnx : m + (j + 1) = m + j + 1 := rfl
            have HB1 := Lib.hid hb1
            have HB2 := Lib.hid hb2
            clear hb1 hb2 hnx
            generalize hZ : m + j = Z at *
            have q3 : decide (Z < lR.length) = true := decide_eq_true HB2.out
            go_wp2_with fail
            go_round
            case rel => exact ⟨j + 1, by go_num, by rw [show m + (j + 1) = Z + 1 by omega]; exact congrArg (Value.int .i64) (by omega), Or.inr ⟨by have := HB1.out; omega, by have := HB2.out; omega⟩⟩
            case measure => have := HB2.out; simp [intOf]; omega
          · have HG2 := Lib.hid hg2
            have hlast : minI ((m : Int) + j) lR.length = crashI lR.length f a b := crash_eq hlR hf HK1.out (by rw [HN1.out]; exact fun h => HG.out ⟨h.1, by rw [HN1.out]; exact h.2⟩) (by rw [HN1.out]; exact HM.out) HJ.out (fun h => HG2.out ⟨h.1, by omega⟩)
            obtain ⟨r, hr⟩ : ∃ r : Nat, (r : Int) = minI ((m : Int) + j) lR.length := by
              obtain ⟨r, hr⟩ := Int.eq_ofNat_of_zero_le (show 0 ≤ minI ((m : Int) + j) lR.length by unfold minI; split <;> omega)
              exact ⟨r, hr.symm⟩
            have hrl : r ≤ lR.length := by unfold minI at hr; split at hr <;> omega
            have HC : Hid ((crashI lR.length f a b).toNat = r) := Lib.hid (by rw [← hlast, ← hr, Int.toNat_natCast])
            have hlk : (lR.take r).length = r := by rw [List.length_take]; omega
            have hZ2 : ∃ Z : Nat, m + j = Z := ⟨_, rfl⟩
            obtain ⟨Z, hZ⟩ := hZ2
            have HR2 : Hid ((r : Int) = if lR.length < Z then (lR.length : Int) else (Z : Int)) := Lib.hid (by rw [hr]; unfold minI; split <;> split <;> omega)
            rw [hZ]
            have hcond2 : ((j : Int) < b → False) ∨ ((j : Int) < b ∧ ¬ Z < lR.length) := by
              by_cases hjb2 : (j : Int) < b
              · exact Or.inr ⟨hjb2, fun h => hg2 ⟨hjb2, by omega⟩⟩
              · exact Or.inl hjb2
            clear hg2 hlast hr
            rcases hcond2 with hjb2 | ⟨hjb2, hzl⟩
            · have q1 : decide ((j : Int) < b) = false := decide_eq_false hjb2
              clear hjb2
              have hrc : r ≤ cR := by omega
              go_upto_region 12 with fail
              rw [show (if lR.length < Z then (lR.length : Int) else (Z : Int)) = (r : Int) from HR2.out.symm]
              refine wp_region_held_drew (S := fun w' : World => rowAt w' w.heap.size = some (#[.int .i64 s, .int .i64 f, .slice AR lR.length cR], 35) ∧ IsBy w' AR lR ∧ Hid (Below w.heap.size w w')) (by kernel_rfl) ⟨by rw [rowAt_drew]; exact R1.out, HR0.out.below (Below.refl _ _).drew, Lib.hid HB0.out.drew⟩ (fun hS => ?_)
              have r6 : rowAt W.drew (w.heap.size + 1) = some (#[.int .i64 0, .int .i64 0, .slice none 0 0], 35) := by rw [rowAt_drew]; exact R2.out
              clear c1 c2
              generalize W.drew = W1 at *
              refine held_take (i := 0) (by simp only [List.getElem?_toArray, List.getElem?_cons_succ, List.getElem?_cons_zero]; rfl) (by decide +kernel) (by decide +kernel) (by decide +kernel) (by exact fun _ _ _ _ h => h) hS (by rfl) ?_
              apply Exists.intro
              refine ⟨fun w' hSw => ?_, ?_⟩
              · go_simp
                with_reducible rfl
              (try simp only [act_put, act_put_none, List.set_cons_zero, List.set_cons_succ])
              refine held_take (i := 1) (by simp only [List.getElem?_toArray, List.getElem?_cons_succ, List.getElem?_cons_zero]; rfl) (by decide +kernel) (by decide +kernel) (by decide +kernel) (by exact fun _ _ _ _ h => h) hS (by rfl) ?_
              apply Exists.intro
              refine ⟨fun w' hSw => ?_, ?_⟩
              · obtain ⟨q1, q2, _⟩ := hSw
                have hc2 : w'.cell? ⟨w.heap.size, 0, none⟩ = some (.int .i64 s) := by rw [cell_of_rowAt q1]; rfl
                go_simp
                with_reducible rfl
              (try simp only [act_put, act_put_none, List.set_cons_zero, List.set_cons_succ])
              refine held_take (i := 2) (by simp only [List.getElem?_toArray, List.getElem?_cons_succ, List.getElem?_cons_zero]; rfl) (by decide +kernel) (by decide +kernel) (by decide +kernel) (by exact fun _ _ _ _ h => h) hS (by rfl) ?_
              apply Exists.intro
              refine ⟨fun w' hSw => ?_, ?_⟩
              · go_simp
                with_reducible rfl
              (try simp only [act_put, act_put_none, List.set_cons_zero, List.set_cons_succ])
              refine held_take (i := 4) (by simp only [List.getElem?_toArray, List.getElem?_cons_succ, List.getElem?_cons_zero]; rfl) (by decide +kernel) (by decide +kernel) (by decide +kernel) (by exact fun _ _ _ _ h => h) hS (by rfl) ?_
              apply Exists.intro
              refine ⟨fun w' hSw => ?_, ?_⟩
              · go_simp
                with_reducible rfl
              (try simp only [act_put, act_put_none, List.set_cons_zero, List.set_cons_succ])
              refine held_take (i := 5) (by simp only [List.getElem?_toArray, List.getElem?_cons_succ, List.getElem?_cons_zero]; rfl) (by decide +kernel) (by decide +kernel) (by decide +kernel) (by exact fun _ _ _ _ h => h) hS (by rfl) ?_
              apply Exists.intro
              refine ⟨fun w' hSw => ?_, ?_⟩
              · obtain ⟨q1, q2, _⟩ := hSw
                have hc2 : w'.cell? ⟨w.heap.size, 2, none⟩ = some (.slice AR lR.length cR) := by rw [cell_of_rowAt q1]; rfl
                go_simp
                with_reducible rfl
              (try simp only [act_put, act_put_none, List.set_cons_zero, List.set_cons_succ])
              refine held_take (i := 6) (by simp only [List.getElem?_toArray, List.getElem?_cons_succ, List.getElem?_cons_zero]; rfl) (by decide +kernel) (by decide +kernel) (by decide +kernel) (by exact fun _ _ _ _ h => h) hS (by rfl) ?_
              apply Exists.intro
              refine ⟨fun w' hSw => ?_, ?_⟩
              · go_simp
                with_reducible rfl
              (try simp only [act_put, act_put_none, List.set_cons_zero, List.set_cons_succ])
              refine held_take (i := 7) (by simp only [List.getElem?_toArray, List.getElem?_cons_succ, List.getElem?_cons_zero]; rfl) (by decide +kernel) (by decide +kernel) (by decide +kernel) (by exact fun _ _ _ _ h => h) hS (by rfl) ?_
              apply Exists.intro
              refine ⟨fun w' hSw => ?_, ?_⟩
              · go_simp
                with_reducible rfl
              (try simp only [act_put, act_put_none, List.set_cons_zero, List.set_cons_succ])
              refine wpAnyH_ready (rs := [3]) (by decide +kernel) (by simp) ?_
              refine AllReadyH.cons (i := 3) (by simp only [List.getElem?_toArray, List.getElem?_cons_succ, List.getElem?_cons_zero]; rfl) (fun K hK => ?_) ?_
              · go_simp
                refine hK.out _ _ ⟨rowPast hS.1, hS.2.1.alloc _, Lib.hid (below_allocS hS.2.2.out _)⟩ (fun hS2 => ?_)
                have r6a := rowPast (o := .cells #[] 5) r6
                clear hS hK K r6
                have hS := hS2
                clear hS2
                generalize W1.alloc (.cells #[] 5) = W2 at *
                (try simp only [act_put, act_put_none, List.set_cons_zero, List.set_cons_succ])
                refine wpAnyH_ready (rs := [8]) (by decide +kernel) (by simp) ?_
                refine AllReadyH.cons (i := 8) (by simp only [List.getElem?_toArray, List.getElem?_cons_succ, List.getElem?_cons_zero]; rfl) (fun K hK => ?_) ?_
                · rw [if_pos (by rfl)]
                  refine wp_app_full _ _ rfl (some ⟨W1.heap.size, 0, none⟩) AR [] (lR.take r) cR rfl (by rw [hlk]; rfl) (IsBy.nil _ _) (fun _ => rfl) (hS.2.1.take r) HRN.out (by rw [hlk]; simp; omega) ?_
                  intro A3 c3 w3 hi hc3 hn3 hb _
                  have hi3 : IsBy w3 A3 (lR.take r) := hi
                  have hc3b : r ≤ c3 := by rw [← hlk]; exact hc3
                  rw [show (([] : List UInt8) ++ lR.take r).length = r from hlk]
                  refine hK.out _ _ ⟨rowKeep hb hS.1, hS.2.1.below hb, Lib.hid (bthen hS.2.2.out hb)⟩ (fun hS2 => ?_)
                  have r6b := rowKeep hb r6a
                  clear hS hK K r6a hb hi hc3
                  have hS := hS2
                  clear hS2
                  (try simp only [act_put, act_put_none, List.set_cons_zero, List.set_cons_succ])
                  refine held_take (i := 9) (by simp only [List.getElem?_toArray, List.getElem?_cons_succ, List.getElem?_cons_zero]; rfl) (by decide +kernel) (by decide +kernel) (by decide +kernel) (by exact fun _ _ _ _ h => h) hS (by rfl) ?_
                  apply Exists.intro
                  refine ⟨fun w' hSw => ?_, ?_⟩
                  · go_simp
                    with_reducible rfl
                  (try simp only [act_put, act_put_none, List.set_cons_zero, List.set_cons_succ])
                  refine wpAnyH_ready (rs := [10]) (by decide +kernel) (by simp) ?_
                  refine AllReadyH.cons (i := 10) (by simp only [List.getElem?_toArray, List.getElem?_cons_succ, List.getElem?_cons_zero]; rfl) (fun K hK => ?_) ?_
                  · have hsz := hS.2.2.out.size
                    have HN := Lib.hid (noBy3 r6b)
                    go_simp
                    refine hK.out _ _ ⟨by rw [rowAt_setRow, if_neg (by omega)]; exact hS.1, isBy_off hS.2.1 HN.out (Bt.setRow _ _ _), Lib.hid (below_setRow' hS.2.2.out (by omega) _)⟩ (fun hS2 => ?_)
                    have i3b := isBy_off hi3 HN.out (Bt.setRow _ w3 #[.int .i64 s, .int .i64 r, .slice A3 r c3])
                    have r6c : rowAt (w3.setRow (w.heap.size + 1) #[.int .i64 s, .int .i64 r, .slice A3 r c3]) (w.heap.size + 1) = some (#[.int .i64 s, .int .i64 r, .slice A3 r c3], 35) := by rw [rowAt_setRow, if_pos rfl, r6b]; rfl
                    clear hS hK K hi3 r6b
                    have hS := hS2
                    clear hS2
                    (try simp only [act_put, act_put_none, List.set_cons_zero, List.set_cons_succ])
                    refine wpAnyH_done (by decide +kernel) ?_ _
                    have HS := Lib.hid hS.2.2.out
                    have HI3 := Lib.hid i3b
                    clear hS i3b
                    go_wp2_with fail
                    refine ret_c rfl rfl rfl (by simp [go_sem, *]; rfl) ?_
                    have hrk := HC.out.symm.trans HK0.out
                    subst hrk
                    exact ⟨A3, c3, rfl, HI3.out, hc3b, hn3, HS.out⟩
                  exact AllReadyH.nil
                exact AllReadyH.nil
              exact AllReadyH.nil
            · have q1 : decide ((j : Int) < b) = true := decide_eq_true hjb2
              have q2 : decide ((Z : Int) < (lR.length : Int)) = false := decide_eq_false (by omega)
              have q3 : decide (Z < lR.length) = false := decide_eq_false hzl
              clear hjb2 hzl
              have hrc : r ≤ cR := by omega
              go_upto_region 12 with fail
              rw [show (if lR.length < Z then (lR.length : Int) else (Z : Int)) = (r : Int) from HR2.out.symm]
              refine wp_region_held_drew (S := fun w' : World => rowAt w' w.heap.size = some (#[.int .i64 s, .int .i64 f, .slice AR lR.length cR], 35) ∧ IsBy w' AR lR ∧ Hid (Below w.heap.size w w')) (by kernel_rfl) ⟨by rw [rowAt_drew]; exact R1.out, HR0.out.below (Below.refl _ _).drew, Lib.hid HB0.out.drew⟩ (fun hS => ?_)
              have r6 : rowAt W.drew (w.heap.size + 1) = some (#[.int .i64 0, .int .i64 0, .slice none 0 0], 35) := by rw [rowAt_drew]; exact R2.out
              clear c1 c2
              generalize W.drew = W1 at *
              refine held_take (i := 0) (by simp only [List.getElem?_toArray, List.getElem?_cons_succ, List.getElem?_cons_zero]; rfl) (by decide +kernel) (by decide +kernel) (by decide +kernel) (by exact fun _ _ _ _ h => h) hS (by rfl) ?_
              apply Exists.intro
              refine ⟨fun w' hSw => ?_, ?_⟩
              · go_simp
                with_reducible rfl
              (try simp only [act_put, act_put_none, List.set_cons_zero, List.set_cons_succ])
              refine held_take (i := 1) (by simp only [List.getElem?_toArray, List.getElem?_cons_succ, List.getElem?_cons_zero]; rfl) (by decide +kernel) (by decide +kernel) (by decide +kernel) (by exact fun _ _ _ _ h => h) hS (by rfl) ?_
              apply Exists.intro
              refine ⟨fun w' hSw => ?_, ?_⟩
              · obtain ⟨q1, q2, _⟩ := hSw
                have hc2 : w'.cell? ⟨w.heap.size, 0, none⟩ = some (.int .i64 s) := by rw [cell_of_rowAt q1]; rfl
                go_simp
                with_reducible rfl
              (try simp only [act_put, act_put_none, List.set_cons_zero, List.set_cons_succ])
              refine held_take (i := 2) (by simp only [List.getElem?_toArray, List.getElem?_cons_succ, List.getElem?_cons_zero]; rfl) (by decide +kernel) (by decide +kernel) (by decide +kernel) (by exact fun _ _ _ _ h => h) hS (by rfl) ?_
              apply Exists.intro
              refine ⟨fun w' hSw => ?_, ?_⟩
              · go_simp
                with_reducible rfl
              (try simp only [act_put, act_put_none, List.set_cons_zero, List.set_cons_succ])
              refine held_take (i := 4) (by simp only [List.getElem?_toArray, List.getElem?_cons_succ, List.getElem?_cons_zero]; rfl) (by decide +kernel) (by decide +kernel) (by decide +kernel) (by exact fun _ _ _ _ h => h) hS (by rfl) ?_
              apply Exists.intro
              refine ⟨fun w' hSw => ?_, ?_⟩
              · go_simp
                with_reducible rfl
              (try simp only [act_put, act_put_none, List.set_cons_zero, List.set_cons_succ])
              refine held_take (i := 5) (by simp only [List.getElem?_toArray, List.getElem?_cons_succ, List.getElem?_cons_zero]; rfl) (by decide +kernel) (by decide +kernel) (by decide +kernel) (by exact fun _ _ _ _ h => h) hS (by rfl) ?_
              apply Exists.intro
              refine ⟨fun w' hSw => ?_, ?_⟩
              · obtain ⟨q1, q2, _⟩ := hSw
                have hc2 : w'.cell? ⟨w.heap.size, 2, none⟩ = some (.slice AR lR.length cR) := by rw [cell_of_rowAt q1]; rfl
                go_simp
                with_reducible rfl
              (try simp only [act_put, act_put_none, List.set_cons_zero, List.set_cons_succ])
              refine held_take (i := 6) (by simp only [List.getElem?_toArray, List.getElem?_cons_succ, List.getElem?_cons_zero]; rfl) (by decide +kernel) (by decide +kernel) (by decide +kernel) (by exact fun _ _ _ _ h => h) hS (by rfl) ?_
              apply Exists.intro
              refine ⟨fun w' hSw => ?_, ?_⟩
              · go_simp
                with_reducible rfl
              (try simp only [act_put, act_put_none, List.set_cons_zero, List.set_cons_succ])
              refine held_take (i := 7) (by simp only [List.getElem?_toArray, List.getElem?_cons_succ, List.getElem?_cons_zero]; rfl) (by decide +kernel) (by decide +kernel) (by decide +kernel) (by exact fun _ _ _ _ h => h) hS (by rfl) ?_
              apply Exists.intro
              refine ⟨fun w' hSw => ?_, ?_⟩
              · go_simp
                with_reducible rfl
              (try simp only [act_put, act_put_none, List.set_cons_zero, List.set_cons_succ])
              refine wpAnyH_ready (rs := [3]) (by decide +kernel) (by simp) ?_
              refine AllReadyH.cons (i := 3) (by simp only [List.getElem?_toArray, List.getElem?_cons_succ, List.getElem?_cons_zero]; rfl) (fun K hK => ?_) ?_
              · go_simp
                refine hK.out _ _ ⟨rowPast hS.1, hS.2.1.alloc _, Lib.hid (below_allocS hS.2.2.out _)⟩ (fun hS2 => ?_)
                have r6a := rowPast (o := .cells #[] 5) r6
                clear hS hK K r6
                have hS := hS2
                clear hS2
                generalize W1.alloc (.cells #[] 5) = W2 at *
                (try simp only [act_put, act_put_none, List.set_cons_zero, List.set_cons_succ])
                refine wpAnyH_ready (rs := [8]) (by decide +kernel) (by simp) ?_
                refine AllReadyH.cons (i := 8) (by simp only [List.getElem?_toArray, List.getElem?_cons_succ, List.getElem?_cons_zero]; rfl) (fun K hK => ?_) ?_
                · rw [if_pos (by rfl)]
                  refine wp_app_full _ _ rfl (some ⟨W1.heap.size, 0, none⟩) AR [] (lR.take r) cR rfl (by rw [hlk]; rfl) (IsBy.nil _ _) (fun _ => rfl) (hS.2.1.take r) HRN.out (by rw [hlk]; simp; omega) ?_
                  intro A3 c3 w3 hi hc3 hn3 hb _
                  have hi3 : IsBy w3 A3 (lR.take r) := hi
                  have hc3b : r ≤ c3 := by rw [← hlk]; exact hc3
                  rw [show (([] : List UInt8) ++ lR.take r).length = r from hlk]
                  refine hK.out _ _ ⟨rowKeep hb hS.1, hS.2.1.below hb, Lib.hid (bthen hS.2.2.out hb)⟩ (fun hS2 => ?_)
                  have r6b := rowKeep hb r6a
                  clear hS hK K r6a hb hi hc3
                  have hS := hS2
                  clear hS2
                  (try simp only [act_put, act_put_none, List.set_cons_zero, List.set_cons_succ])
                  refine held_take (i := 9) (by simp only [List.getElem?_toArray, List.getElem?_cons_succ, List.getElem?_cons_zero]; rfl) (by decide +kernel) (by decide +kernel) (by decide +kernel) (by exact fun _ _ _ _ h => h) hS (by rfl) ?_
                  apply Exists.intro
                  refine ⟨fun w' hSw => ?_, ?_⟩
                  · go_simp
                    with_reducible rfl
                  (try simp only [act_put, act_put_none, List.set_cons_zero, List.set_cons_succ])
                  refine wpAnyH_ready (rs := [10]) (by decide +kernel) (by simp) ?_
                  refine AllReadyH.cons (i := 10) (by simp only [List.getElem?_toArray, List.getElem?_cons_succ, List.getElem?_cons_zero]; rfl) (fun K hK => ?_) ?_
                  · have hsz := hS.2.2.out.size
                    have HN := Lib.hid (noBy3 r6b)
                    go_simp
                    refine hK.out _ _ ⟨by rw [rowAt_setRow, if_neg (by omega)]; exact hS.1, isBy_off hS.2.1 HN.out (Bt.setRow _ _ _), Lib.hid (below_setRow' hS.2.2.out (by omega) _)⟩ (fun hS2 => ?_)
                    have i3b := isBy_off hi3 HN.out (Bt.setRow _ w3 #[.int .i64 s, .int .i64 r, .slice A3 r c3])
                    have r6c : rowAt (w3.setRow (w.heap.size + 1) #[.int .i64 s, .int .i64 r, .slice A3 r c3]) (w.heap.size + 1) = some (#[.int .i64 s, .int .i64 r, .slice A3 r c3], 35) := by rw [rowAt_setRow, if_pos rfl, r6b]; rfl
                    clear hS hK K hi3 r6b
                    have hS := hS2
                    clear hS2
                    (try simp only [act_put, act_put_none, List.set_cons_zero, List.set_cons_succ])
                    refine wpAnyH_done (by decide +kernel) ?_ _
                    have HS := Lib.hid hS.2.2.out
                    have HI3 := Lib.hid i3b
                    clear hS i3b
                    go_wp2_with fail
                    refine ret_c rfl rfl rfl (by simp [go_sem, *]; rfl) ?_
                    have hrk := HC.out.symm.trans HK0.out
                    subst hrk
                    exact ⟨A3, c3, rfl, HI3.out, hc3b, hn3, HS.out⟩
                  exact AllReadyH.nil
                exact AllReadyH.nil
              exact AllReadyH.nil
      · have g1 : decide ((k : Int) < a) = true := decide_eq_true hka
        have g2 : decide ((N1 : Int) < (lR.length : Int)) = false := decide_eq_false (by omega)
        have g3 : decide (N1 < lR.length) = false := decide_eq_false (by omega)
        clear hka hln
        go_upto_region 7 with fail
        rw [show (if N1 < f then (f : Int) else (N1 : Int)) = (m : Int) from by rw [HM.out]; unfold maxI; split <;> split <;> omega]
        go_wp2_with fail
        go_loop [7, 9] (fun x i => ∃ j : Nat, i = .int .i64 j ∧ x = .int .i64 ((m + j : Nat) : Int) ∧ (j = 0 ∨ ((j : Int) - 1 < b ∧ (m : Int) + ((j : Int) - 1) < lR.length))) (fun x _ => lR.length + 1 - (intOf x).toNat)
        case atStart => exact ⟨0, rfl, rfl, Or.inl rfl⟩
        case round =>
          obtain ⟨j, rfl, rfl, hj⟩ := hrel
          have HJ := Lib.hid hj
          have hjb : m + j ≤ 4194304 := by omega
          clear hj
          by_cases hg2 : (j : Int) < b ∧ m + j < lR.length
          · obtain ⟨hb1, hb2⟩ := hg2
            have q1 : decide ((j : Int) < b) = true := decide_eq_true hb1
            have q2 : decide (((m + j : Nat) : Int) < (lR.length : Int)) = true := decide_eq_true (by omega)
            have hnx : m + (j + 1) = m + j + 1 := rfl
            have HB1 := Lib.hid hb1
            have HB2 := Lib.hid hb2
            clear hb1 hb2 hnx
            generalize hZ : m + j = Z at *
            have q3 : decide (Z < lR.length) = true := decide_eq_true HB2.out
            go_wp2_with fail
            go_round
            case rel => exact ⟨j + 1, by go_num, by rw [show m + (j + 1) = Z + 1 by omega]; exact congrArg (Value.int .i64) (by omega), Or.inr ⟨by have := HB1.out; omega, by have := HB2.out; omega⟩⟩
            case measure => have := HB2.out; simp [intOf]; omega
          · have HG2 := Lib.hid hg2
            have hlast : minI ((m : Int) + j) lR.length = crashI lR.length f a b := crash_eq hlR hf HK1.out (by rw [HN1.out]; exact fun h => HG.out ⟨h.1, by rw [HN1.out]; exact h.2⟩) (by rw [HN1.out]; exact HM.out) HJ.out (fun h => HG2.out ⟨h.1, by omega⟩)
            obtain ⟨r, hr⟩ : ∃ r : Nat, (r : Int) = minI ((m : Int) + j) lR.length := by
              obtain ⟨r, hr⟩ := Int.eq_ofNat_of_zero_le (show 0 ≤ minI ((m : Int) + j) lR.length by unfold minI; split <;> omega)
              exact ⟨r, hr.symm⟩
            have hrl : r ≤ lR.length := by unfold minI at hr; split at hr <;> omega
            have HC : Hid ((crashI lR.length f a b).toNat = r) := Lib.hid (by rw [← hlast, ← hr, Int.toNat_natCast])
            have hlk : (lR.take r).length = r := by rw [List.length_take]; omega
            have hZ2 : ∃ Z : Nat, m + j = Z := ⟨_, rfl⟩
            obtain ⟨Z, hZ⟩ := hZ2
            have HR2 : Hid ((r : Int) = if lR.length < Z then (lR.length : Int) else (Z : Int)) := Lib.hid (by rw [hr]; unfold minI; split <;> split <;> omega)
            rw [hZ]
            have hcond2 : ((j : Int) < b → False) ∨ ((j : Int) < b ∧ ¬ Z < lR.length) := by
              by_cases hjb2 : (j : Int) < b
              · exact Or.inr ⟨hjb2, fun h => hg2 ⟨hjb2, by omega⟩⟩
              · exact Or.inl hjb2
            clear hg2 hlast hr
            rcases hcond2 with hjb2 | ⟨hjb2, hzl⟩
            · have q1 : decide ((j : Int) < b) = false := decide_eq_false hjb2
              clear hjb2
              have hrc : r ≤ cR := by omega
              go_upto_region 12 with fail
              rw [show (if lR.length < Z then (lR.length : Int) else (Z : Int)) = (r : Int) from HR2.out.symm]
              refine wp_region_held_drew (S := fun w' : World => rowAt w' w.heap.size = some (#[.int .i64 s, .int .i64 f, .slice AR lR.length cR], 35) ∧ IsBy w' AR lR ∧ Hid (Below w.heap.size w w')) (by kernel_rfl) ⟨by rw [rowAt_drew]; exact R1.out, HR0.out.below (Below.refl _ _).drew, Lib.hid HB0.out.drew⟩ (fun hS => ?_)
              have r6 : rowAt W.drew (w.heap.size + 1) = some (#[.int .i64 0, .int .i64 0, .slice none 0 0], 35) := by rw [rowAt_drew]; exact R2.out
              clear c1 c2
              generalize W.drew = W1 at *
              refine held_take (i := 0) (by simp only [List.getElem?_toArray, List.getElem?_cons_succ, List.getElem?_cons_zero]; rfl) (by decide +kernel) (by decide +kernel) (by decide +kernel) (by exact fun _ _ _ _ h => h) hS (by rfl) ?_
              apply Exists.intro
              refine ⟨fun w' hSw => ?_, ?_⟩
              · go_simp
                with_reducible rfl
              (try simp only [act_put, act_put_none, List.set_cons_zero, List.set_cons_succ])
              refine held_take (i := 1) (by simp only [List.getElem?_toArray, List.getElem?_cons_succ, List.getElem?_cons_zero]; rfl) (by decide +kernel) (by decide +kernel) (by decide +kernel) (by exact fun _ _ _ _ h => h) hS (by rfl) ?_
              apply Exists.intro
              refine ⟨fun w' hSw => ?_, ?_⟩
              · obtain ⟨q1, q2, _⟩ := hSw
                have hc2 : w'.cell? ⟨w.heap.size, 0, none⟩ = some (.int .i64 s) := by rw [cell_of_rowAt q1]; rfl
                go_simp
                with_reducible rfl
              (try simp only [act_put, act_put_none, List.set_cons_zero, List.set_cons_succ])
              refine held_take (i := 2) (by simp only [List.getElem?_toArray, List.getElem?_cons_succ, List.getElem?_cons_zero]; rfl) (by decide +kernel) (by decide +kernel) (by decide +kernel) (by exact fun _ _ _ _ h => h) hS (by rfl) ?_
              apply Exists.intro
              refine ⟨fun w' hSw => ?_, ?_⟩
              · go_simp
                with_reducible rfl
              (try simp only [act_put, act_put_none, List.set_cons_zero, List.set_cons_succ])
              refine held_take (i := 4) (by simp only [List.getElem?_toArray, List.getElem?_cons_succ, List.getElem?_cons_zero]; rfl) (by decide +kernel) (by decide +kernel) (by decide +kernel) (by exact fun _ _ _ _ h => h) hS (by rfl) ?_
              apply Exists.intro
              refine ⟨fun w' hSw => ?_, ?_⟩
              · go_simp
                with_reducible rfl
              (try simp only [act_put, act_put_none, List.set_cons_zero, List.set_cons_succ])
              refine held_take (i := 5) (by simp only [List.getElem?_toArray, List.getElem?_cons_succ, List.getElem?_cons_zero]; rfl) (by decide +kernel) (by decide +kernel) (by decide +kernel) (by exact fun _ _ _ _ h => h) hS (by rfl) ?_
              apply Exists.intro
              refine ⟨fun w' hSw => ?_, ?_⟩
              · obtain ⟨q1, q2, _⟩ := hSw
                have hc2 : w'.cell? ⟨w.heap.size, 2, none⟩ = some (.slice AR lR.length cR) := by rw [cell_of_rowAt q1]; rfl
                go_simp
                with_reducible rfl
              (try simp only [act_put, act_put_none, List.set_cons_zero, List.set_cons_succ])
              refine held_take (i := 6) (by simp only [List.getElem?_toArray, List.getElem?_cons_succ, List.getElem?_cons_zero]; rfl) (by decide +kernel) (by decide +kernel) (by decide +kernel) (by exact fun _ _ _ _ h => h) hS (by rfl) ?_
              apply Exists.intro
              refine ⟨fun w' hSw => ?_, ?_⟩
              · go_simp
                with_reducible rfl
              (try simp only [act_put, act_put_none, List.set_cons_zero, List.set_cons_succ])
              refine held_take (i := 7) (by simp only [List.getElem?_toArray, List.getElem?_cons_succ, List.getElem?_cons_zero]; rfl) (by decide +kernel) (by decide +kernel) (by decide +kernel) (by exact fun _ _ _ _ h => h) hS (by rfl) ?_
              apply Exists.intro
              refine ⟨fun w' hSw => ?_, ?_⟩
              · go_simp
                with_reducible rfl
              (try simp only [act_put, act_put_none, List.set_cons_zero, List.set_cons_succ])
              refine wpAnyH_ready (rs := [3]) (by decide +kernel) (by simp) ?_
              refine AllReadyH.cons (i := 3) (by simp only [List.getElem?_toArray, List.getElem?_cons_succ, List.getElem?_cons_zero]; rfl) (fun K hK => ?_) ?_
              · go_simp
                refine hK.out _ _ ⟨rowPast hS.1, hS.2.1.alloc _, Lib.hid (below_allocS hS.2.2.out _)⟩ (fun hS2 => ?_)
                have r6a := rowPast (o := .cells #[] 5) r6
                clear hS hK K r6
                have hS := hS2
                clear hS2
                generalize W1.alloc (.cells #[] 5) = W2 at *
                (try simp only [act_put, act_put_none, List.set_cons_zero, List.set_cons_succ])
                refine wpAnyH_ready (rs := [8]) (by decide +kernel) (by simp) ?_
                refine AllReadyH.cons (i := 8) (by simp only [List.getElem?_toArray, List.getElem?_cons_succ, List.getElem?_cons_zero]; rfl) (fun K hK => ?_) ?_
                · rw [if_pos (by rfl)]
                  refine wp_app_full _ _ rfl (some ⟨W1.heap.size, 0, none⟩) AR [] (lR.take r) cR rfl (by rw [hlk]; rfl) (IsBy.nil _ _) (fun _ => rfl) (hS.2.1.take r) HRN.out (by rw [hlk]; simp; omega) ?_
                  intro A3 c3 w3 hi hc3 hn3 hb _
                  have hi3 : IsBy w3 A3 (lR.take r) := hi
                  have hc3b : r ≤ c3 := by rw [← hlk]; exact hc3
                  rw [show (([] : List UInt8) ++ lR.take r).length = r from hlk]
                  refine hK.out _ _ ⟨rowKeep hb hS.1, hS.2.1.below hb, Lib.hid (bthen hS.2.2.out hb)⟩ (fun hS2 => ?_)
                  have r6b := rowKeep hb r6a
                  clear hS hK K r6a hb hi hc3
                  have hS := hS2
                  clear hS2
                  (try simp only [act_put, act_put_none, List.set_cons_zero, List.set_cons_succ])
                  refine held_take (i := 9) (by simp only [List.getElem?_toArray, List.getElem?_cons_succ, List.getElem?_cons_zero]; rfl) (by decide +kernel) (by decide +kernel) (by decide +kernel) (by exact fun _ _ _ _ h => h) hS (by rfl) ?_
                  apply Exists.intro
                  refine ⟨fun w' hSw => ?_, ?_⟩
                  · go_simp
                    with_reducible rfl
                  (try simp only [act_put, act_put_none, List.set_cons_zero, List.set_cons_succ])
                  refine wpAnyH_ready (rs := [10]) (by decide +kernel) (by simp) ?_
                  refine AllReadyH.cons (i := 10) (by simp only [List.getElem?_toArray, List.getElem?_cons_succ, List.getElem?_cons_zero]; rfl) (fun K hK => ?_) ?_
                  · have hsz := hS.2.2.out.size
                    have HN := Lib.hid (noBy3 r6b)
                    go_simp
                    refine hK.out _ _ ⟨by rw [rowAt_setRow, if_neg (by omega)]; exact hS.1, isBy_off hS.2.1 HN.out (Bt.setRow _ _ _), Lib.hid (below_setRow' hS.2.2.out (by omega) _)⟩ (fun hS2 => ?_)
                    have i3b := isBy_off hi3 HN.out (Bt.setRow _ w3 #[.int .i64 s, .int .i64 r, .slice A3 r c3])
                    have r6c : rowAt (w3.setRow (w.heap.size + 1) #[.int .i64 s, .int .i64 r, .slice A3 r c3]) (w.heap.size + 1) = some (#[.int .i64 s, .int .i64 r, .slice A3 r c3], 35) := by rw [rowAt_setRow, if_pos rfl, r6b]; rfl
                    clear hS hK K hi3 r6b
                    have hS := hS2
                    clear hS2
                    (try simp only [act_put, act_put_none, List.set_cons_zero, List.set_cons_succ])
                    refine wpAnyH_done (by decide +kernel) ?_ _
                    have HS := Lib.hid hS.2.2.out
                    have HI3 := Lib.hid i3b
                    clear hS i3b
                    go_wp2_with fail
                    refine ret_c rfl rfl rfl (by simp [go_sem, *]; rfl) ?_
                    have hrk := HC.out.symm.trans HK0.out
                    subst hrk
                    exact ⟨A3, c3, rfl, HI3.out, hc3b, hn3, HS.out⟩
                  exact AllReadyH.nil
                exact AllReadyH.nil
              exact AllReadyH.nil
            · have q1 : decide ((j : Int) < b) = true := decide_eq_true hjb2
              have q2 : decide ((Z : Int) < (lR.length : Int)) = false := decide_eq_false (by omega)
              have q3 : decide (Z < lR.length) = false := decide_eq_false hzl
              clear hjb2 hzl
              have hrc : r ≤ cR := by omega
              go_upto_region 12 with fail
              rw [show (if lR.length < Z then (lR.length : Int) else (Z : Int)) = (r : Int) from HR2.out.symm]
              refine wp_region_held_drew (S := fun w' : World => rowAt w' w.heap.size = some (#[.int .i64 s, .int .i64 f, .slice AR lR.length cR], 35) ∧ IsBy w' AR lR ∧ Hid (Below w.heap.size w w')) (by kernel_rfl) ⟨by rw [rowAt_drew]; exact R1.out, HR0.out.below (Below.refl _ _).drew, Lib.hid HB0.out.drew⟩ (fun hS => ?_)
              have r6 : rowAt W.drew (w.heap.size + 1) = some (#[.int .i64 0, .int .i64 0, .slice none 0 0], 35) := by rw [rowAt_drew]; exact R2.out
              clear c1 c2
              generalize W.drew = W1 at *
              refine held_take (i := 0) (by simp only [List.getElem?_toArray, List.getElem?_cons_succ, List.getElem?_cons_zero]; rfl) (by decide +kernel) (by decide +kernel) (by decide +kernel) (by exact fun _ _ _ _ h => h) hS (by rfl) ?_
              apply Exists.intro
              refine ⟨fun w' hSw => ?_, ?_⟩
              · go_simp
                with_reducible rfl
              (try simp only [act_put, act_put_none, List.set_cons_zero, List.set_cons_succ])
              refine held_take (i := 1) (by simp only [List.getElem?_toArray, List.getElem?_cons_succ, List.getElem?_cons_zero]; rfl) (by decide +kernel) (by decide +kernel) (by decide +kernel) (by exact fun _ _ _ _ h => h) hS (by rfl) ?_
              apply Exists.intro
              refine ⟨fun w' hSw => ?_, ?_⟩
              · obtain ⟨q1, q2, _⟩ := hSw
                have hc2 : w'.cell? ⟨w.heap.size, 0, none⟩ = some (.int .i64 s) := by rw [cell_of_rowAt q1]; rfl
                go_simp
                with_reducible rfl
              (try simp only [act_put, act_put_none, List.set_cons_zero, List.set_cons_succ])
              refine held_take (i := 2) (by simp only [List.getElem?_toArray, List.getElem?_cons_succ, List.getElem?_cons_zero]; rfl) (by decide +kernel) (by decide +kernel) (by decide +kernel) (by exact fun _ _ _ _ h => h) hS (by rfl) ?_
              apply Exists.intro
              refine ⟨fun w' hSw => ?_, ?_⟩
              · go_simp
                with_reducible rfl
              (try simp only [act_put, act_put_none, List.set_cons_zero, List.set_cons_succ])
              refine held_take (i := 4) (by simp only [List.getElem?_toArray, List.getElem?_cons_succ, List.getElem?_cons_zero]; rfl) (by decide +kernel) (by decide +kernel) (by decide +kernel) (by exact fun _ _ _ _ h => h) hS (by rfl) ?_
              apply Exists.intro
              refine ⟨fun w' hSw => ?_, ?_⟩
              · go_simp
                with_reducible rfl
              (try simp only [act_put, act_put_none, List.set_cons_zero, List.set_cons_succ])
              refine held_take (i := 5) (by simp only [List.getElem?_toArray, List.getElem?_cons_succ, List.getElem?_cons_zero]; rfl) (by decide +kernel) (by decide +kernel) (by decide +kernel) (by exact fun _ _ _ _ h => h) hS (by rfl) ?_
              apply Exists.intro
              refine ⟨fun w' hSw => ?_, ?_⟩
              · obtain ⟨q1, q2, _⟩ := hSw
                have hc2 : w'.cell? ⟨w.heap.size, 2, none⟩ = some (.slice AR lR.length cR) := by rw [cell_of_rowAt q1]; rfl
                go_simp
                with_reducible rfl
              (try simp only [act_put, act_put_none, List.set_cons_zero, List.set_cons_succ])
              refine held_take (i := 6) (by simp only [List.getElem?_toArray, List.getElem?_cons_succ, List.getElem?_cons_zero]; rfl) (by decide +kernel) (by decide +kernel) (by decide +kernel) (by exact fun _ _ _ _ h => h) hS (by rfl) ?_
              apply Exists.intro
              refine ⟨fun w' hSw => ?_, ?_⟩
              · go_simp
                with_reducible rfl
              (try simp only [act_put, act_put_none, List.set_cons_zero, List.set_cons_succ])
              refine held_take (i := 7) (by simp only [List.getElem?_toArray, List.getElem?_cons_succ, List.getElem?_cons_zero]; rfl) (by decide +kernel) (by decide +kernel) (by decide +kernel) (by exact fun _ _ _ _ h => h) hS (by rfl) ?_
              apply Exists.intro
              refine ⟨fun w' hSw => ?_, ?_⟩
              · go_simp
                with_reducible rfl
              (try simp only [act_put, act_put_none, List.set_cons_zero, List.set_cons_succ])
              refine wpAnyH_ready (rs := [3]) (by decide +kernel) (by simp) ?_
              refine AllReadyH.cons (i := 3) (by simp only [List.getElem?_toArray, List.getElem?_cons_succ, List.getElem?_cons_zero]; rfl) (fun K hK => ?_) ?_
              · go_simp
                refine hK.out _ _ ⟨rowPast hS.1, hS.2.1.alloc _, Lib.hid (below_allocS hS.2.2.out _)⟩ (fun hS2 => ?_)
                have r6a := rowPast (o := .cells #[] 5) r6
                clear hS hK K r6
                have hS := hS2
                clear hS2
                generalize W1.alloc (.cells #[] 5) = W2 at *
                (try simp only [act_put, act_put_none, List.set_cons_zero, List.set_cons_succ])
                refine wpAnyH_ready (rs := [8]) (by decide +kernel) (by simp) ?_
                refine AllReadyH.cons (i := 8) (by simp only [List.getElem?_toArray, List.getElem?_cons_succ, List.getElem?_cons_zero]; rfl) (fun K hK => ?_) ?_
                · rw [if_pos (by rfl)]
                  refine wp_app_full _ _ rfl (some ⟨W1.heap.size, 0, none⟩) AR [] (lR.take r) cR rfl (by rw [hlk]; rfl) (IsBy.nil _ _) (fun _ => rfl) (hS.2.1.take r) HRN.out (by rw [hlk]; simp; omega) ?_
                  intro A3 c3 w3 hi hc3 hn3 hb _
                  have hi3 : IsBy w3 A3 (lR.take r) := hi
                  have hc3b : r ≤ c3 := by rw [← hlk]; exact hc3
                  rw [show (([] : List UInt8) ++ lR.take r).length = r from hlk]
                  refine hK.out _ _ ⟨rowKeep hb hS.1, hS.2.1.below hb, Lib.hid (bthen hS.2.2.out hb)⟩ (fun hS2 => ?_)
                  have r6b := rowKeep hb r6a
                  clear hS hK K r6a hb hi hc3
                  have hS := hS2
                  clear hS2
                  (try simp only [act_put, act_put_none, List.set_cons_zero, List.set_cons_succ])
                  refine held_take (i := 9) (by simp only [List.getElem?_toArray, List.getElem?_cons_succ, List.getElem?_cons_zero]; rfl) (by decide +kernel) (by decide +kernel) (by decide +kernel) (by exact fun _ _ _ _ h => h) hS (by rfl) ?_
                  apply Exists.intro
                  refine ⟨fun w' hSw => ?_, ?_⟩
                  · go_simp
                    with_reducible rfl
                  (try simp only [act_put, act_put_none, List.set_cons_zero, List.set_cons_succ])
                  refine wpAnyH_ready (rs := [10]) (by decide +kernel) (by simp) ?_
                  refine AllReadyH.cons (i := 10) (by simp only [List.getElem?_toArray, List.getElem?_cons_succ, List.getElem?_cons_zero]; rfl) (fun K hK => ?_) ?_
                  · have hsz := hS.2.2.out.size
                    have HN := Lib.hid (noBy3 r6b)
                    go_simp
                    refine hK.out _ _ ⟨by rw [rowAt_setRow, if_neg (by omega)]; exact hS.1, isBy_off hS.2.1 HN.out (Bt.setRow _ _ _), Lib.hid (below_setRow' hS.2.2.out (by omega) _)⟩ (fun hS2 => ?_)
                    have i3b := isBy_off hi3 HN.out (Bt.setRow _ w3 #[.int .i64 s, .int .i64 r, .slice A3 r c3])
                    have r6c : rowAt (w3.setRow (w.heap.size + 1) #[.int .i64 s, .int .i64 r, .slice A3 r c3]) (w.heap.size + 1) = some (#[.int .i64 s, .int .i64 r, .slice A3 r c3], 35) := by rw [rowAt_setRow, if_pos rfl, r6b]; rfl
                    clear hS hK K hi3 r6b
                    have hS := hS2
                    clear hS2
                    (try simp only [act_put, act_put_none, List.set_cons_zero, List.set_cons_succ])
                    refine wpAnyH_done (by decide +kernel) ?_ _
                    have HS := Lib.hid hS.2.2.out
                    have HI3 := Lib.hid i3b
                    clear hS i3b
                    go_wp2_with fail
                    refine ret_c rfl rfl rfl (by simp [go_sem, *]; rfl) ?_
                    have hrk := HC.out.symm.trans HK0.out
                    subst hrk
                    exact ⟨A3, c3, rfl, HI3.out, hc3b, hn3, HS.out⟩
                  exact AllReadyH.nil
                exact AllReadyH.nil
              exact AllReadyH.nil
end Go.Proofs.Ytfnbcafilbafgaa
