/-
  Layer 8 (octets): texts as bytes, and read.
-/
import Derived.Test.YtpjichkigccfnaaOctBack
import Derived.Lib.AppendStr
namespace Go.Proofs.Ytpjichkigccfnaa
set_option maxRecDepth 20000
open Go.RowKit
set_option linter.unusedSimpArgs false
attribute [local go_sem] rowAt_setRow rowAt_setCell Later.cell Later.frozen
theorem strB_size (l : List UInt8) : (strB l).size = l.length := by simp [strB, ByteArray.size]
theorem strB_of (s : ByteArray) : strB s.data.toList = s := by simp [strB]
theorem strCells_strB (l : List UInt8) : Lib.strCells (strB l) = l.map bc := by simp [Lib.strCells, strB, bc]
/-- append of a text to bytes of the call's own. -/
theorem wl_append_text {ops : Array Oper} {rest : List Oper} {o : Oper} {a : Act} {w : World} {Q : Exit → Act → World → Prop} (hgd : o.guard = none) (s x : Operand)
    (ho : o.op = .call { callee := .builtin .append, args := #[s, x], argTypes := #[29, 9] }) (base : Nat) (v : Value) (xs ys : List UInt8)
    (hs : a.eval s = v) (hown : OwnBy w base v xs) (hx : a.eval x = .string (strB ys)) (hlen : xs.length + ys.length ≤ 140737488355328) (hbase : base ≤ w.heap.size)
    (h : ∀ v' w', OwnBy w' base v' (xs ++ ys) → Below base w w' → wpList Try.prog ops Q rest (a.put o.dst v') w') : wpList Try.prog ops Q (o :: rest) a w := by
  obtain ⟨i0, hi, hz0, hz1, hz2⟩ := info_byte
  refine Lib.wpList_append_own_string w hgd s x _ _ ho base 5 i0 Try.underlying29 Try.underlying9 hi hz0 hz1 hz2 v _ _ hs hown (strB ys) hx (by rw [strB_size]; unfold maxLen; omega) (by rw [strB_size]; omega) hbase fun v' w' h1 h2 _ => ?_
  rw [strB_size, strCells_strB] at h1
  exact h v' w' (by unfold OwnBy; rw [List.length_append, List.map_append]; exact h1) (hown.grown hbase h2)
theorem text_any (A : Option Addr) (c : Nat) (l t : List UInt8) (w : World) (hl : IsBy w A l) (hA : A = none → c = 0) (hlen : l.length ≤ 70368744177000) (ht : t.length ≤ 70368744177000) :
    Calls Try.prog 34 #[.slice A l.length c, .string (strB t)] w fun e w' => ∃ v, e = .returned v ∧ OwnBy w' w.heap.size v (l ++ (numB t.length ++ t)) ∧ Below w.heap.size w w' := by
  have hn := numB_len t.length
  have hsz := strB_size t
  go_enter Try.func34, Try.ntmps34
  go_wp2_with fail
  refine (number_any A c l t.length w hl hA (by omega)).mono ?_
  rintro e w1 ⟨v, rfl, hown, hb⟩
  have HO := Lib.hid hown
  have HB := Lib.hid hb
  clear hown hb hl hA hsz
  go_wp2_with (at_builtin; refine wl_append_text rfl _ _ rfl w.heap.size _ (l ++ numB t.length) t rfl HO.out rfl ?c1 HB.out.size ?_)
  case c1 => rw [List.length_append]; omega
  intro v' w2 hown hb
  have HO2 := Lib.hid hown
  have HB2 := Lib.hid (HB.out.trans hb)
  clear hown hb
  go_wp2_with fail
  go_ret
  exact ⟨_, rfl, HO2.out, HB2.out⟩
theorem rd_store2 {w : World} {p c' : Nat} {l : List UInt8} {v : Value} {A A' : Option Addr} {e : Int} {m : Nat} (h : rowAt w p = some (#[v, .int .i64 e], 112)) (hl : IsBy w A l) (n : Nat) (_hb : ∀ x, A = some x → x.block < p)
    (hA : n < l.length → A' = A.map (·.add n)) (hm : m = l.length - n) (hc : l.length - n ≤ c') (hN : A' = none → c' = 0) (hb' : ∀ x, A' = some x → x.block < p) : Rd (w.setCell ⟨p, 0, none⟩ (.slice A' m c')) p (l.drop n) e := by
  subst hm
  refine ⟨A', c', by rw [rowAt_setCell, if_pos rfl, h, List.length_drop]; rfl, fun i hi => ?_, by rw [List.length_drop]; exact hc, hN, hb'⟩
  obtain ⟨b1, o1, g1, g2⟩ := hl.drop n hA i hi
  have : b1 < p := hb' _ g1
  exact ⟨b1, o1, g1, ((below_setCell' (Below.refl p w) (Nat.le_refl _)).cell (p := ⟨b1, o1 + i, none⟩) this).trans g2⟩
theorem count_only {w : World} {p : Nat} {l r : List UInt8} {n m : Int} (h : Rd w p l 0) (hlen : l.length ≤ 70368744177664) (hr : rd l 0 = (n, 0, r)) (h0 : 0 ≤ n) (hm : n ≤ m) :
    Calls Try.prog 37 #[.pointer (some ⟨p, 0, none⟩), .int .i64 m] w fun x w' => x = .returned (.int .i64 n) ∧ Rd w' p r 0 ∧ Only p w w' := by
  have HR := Lib.hid h
  have HD := Lib.hid hr
  clear h hr
  go_enter Try.func37, Try.ntmps37
  go_wp2_with fail
  refine (rnum_iso HR.out hlen HD.out).mono ?_
  rintro e w1 ⟨rfl, hr, hb⟩
  have HR1 := Lib.hid hr
  have HB1 := Lib.hid hb
  clear hr hb
  have g1 : decide (n < 0) = false := decide_eq_false (by omega)
  have g2 : decide (m < n) = false := decide_eq_false (by omega)
  go_wp2_with (go_at_call 61; refine (err_any HR1.out).mono ?_; rintro e w' ⟨rfl, rfl⟩)
  go_ret
  exact ⟨rfl, HR1.out, HB1.out⟩
theorem count_ok {w : World} {p : Nat} {l r : List UInt8} {n m : Int} (h : Rd w p l 0) (hlen : l.length ≤ 70368744177664) (hr : rd l 0 = (n, 0, r)) (h0 : 0 ≤ n) (hm : n ≤ m) :
    Calls Try.prog 37 #[.pointer (some ⟨p, 0, none⟩), .int .i64 m] w fun x w' => x = .returned (.int .i64 n) ∧ Rd w' p r 0 ∧ Below p w w' :=
  (count_only h hlen hr h0 hm).mono fun _ _ ⟨h1, h2, h3⟩ => ⟨h1, h2, h3.2.1⟩
set_option maxRecDepth 10000 in
set_option maxHeartbeats 4000000 in
theorem rtext_only {w : World} {p k : Nat} {l r : List UInt8} {m : Int} (h : Rd w p l 0) (hlen : l.length ≤ 70368744177664) (hr : rd l 0 = ((k : Int), 0, r)) (hm : (k : Int) ≤ m) (hk : k ≤ r.length) :
    Calls Try.prog 39 #[.pointer (some ⟨p, 0, none⟩), .int .i64 m] w fun x w' => x = .returned (.string (strB (r.take k))) ∧ Rd w' p (r.drop k) 0 ∧ Only p w w' := by
  have HR := Lib.hid h
  have HD := Lib.hid hr
  clear h hr
  go_enter Try.func39, Try.ntmps39
  go_wp2_with fail
  refine (count_only HR.out hlen HD.out (by omega) hm).mono ?_
  rintro e w1 ⟨rfl, hr, hb⟩
  have HR1 := Lib.hid hr
  have HB1 := Lib.hid hb
  obtain ⟨A, c, h1, h2, h3, h4, h5⟩ := hr
  have d0 : w1.cell? ⟨p, 0, none⟩ = some (.slice A r.length c) := by rw [cell_of_rowAt h1]; rfl
  have hpl := rowAt_lt h1
  have H1 := Lib.hid h1
  have HL := Lib.hid h2
  have hcv : (convert 29 9 (.slice A k c)).run Try.prog w1 = .ok (.string (strB (r.take k))) w1 := by
    have := conv_bytes (c := c) (h2.take k)
    rwa [show (r.take k).length = k by simp; omega] at this
  have g1 : decide ((r.length : Int) < (k : Int)) = false := decide_eq_false (by omega)
  have g2 : decide (r.length < k) = false := decide_eq_false (by omega)
  have hkc : k ≤ c := by omega
  have H4 := Lib.hid h4
  have H5 := Lib.hid h5
  clear hb h1 h2 h4 h5
  go_wp2_with (first | (go_at_call 61; refine (err_any HR1.out).mono ?_; rintro e w' ⟨rfl, rfl⟩) | (refine bytes_slice_to rfl _ _ rfl A r.length c k rfl rfl hkc ?_))
  refine region_quiet_tail 19 (by kernel_rfl) (by kernel_rfl) ?_
  simp only [List.take_succ_cons, List.take_zero, List.drop_succ_cons, List.drop_zero]
  repeat (go_big_quiet_step (fail))
  refine wpQuiet_nil ?_
  intro w3 hb3
  have e0 : w3.cell? ⟨p, 0, none⟩ = some (.slice A r.length c) := (hb3.cell (p := ⟨p, 0, none⟩) hpl).trans d0
  have H3 := Lib.hid (rowKeep hb3 H1.out)
  have f0 : w3.frozen? ⟨p, 0, none⟩ = false := frozen_of_rowAt H3.out 0
  have HB3 := Lib.hid hb3
  have HL3 := Lib.hid (HL.out.below hb3)
  clear hb3
  go_wp2_with fail
  · go_ret
    refine ⟨rfl, ?z1, ?z2⟩
    case z2 => exact HB1.out.trans ((Only.of_below HB3.out (Nat.le_of_lt hpl)).trans (Only.setCell _))
    case z1 => exact rd_store2 H3.out HL3.out k H5.out (fun h => by omega) (by omega) (by omega) (fun _ => rfl) H5.out
  · go_ret
    refine ⟨rfl, ?z1, ?z2⟩
    case z2 => exact HB1.out.trans ((Only.of_below HB3.out (Nat.le_of_lt hpl)).trans (Only.setCell _))
    case z1 =>
      refine rd_store2 H3.out HL3.out k H5.out (fun h => rfl) rfl (Nat.le_refl _) (fun hn => ?_) (fun x hx => ?_)
      · have : A = none := by cases A <;> simp_all
        have := H4.out this
        omega
      · cases A with
        | none => cases hx
        | some a =>
          have := H5.out a rfl
          injection hx with hx
          subst hx
          unfold Addr.add
          split
          · exact this
          · exact this
theorem rtext_ok {w : World} {p k : Nat} {l r : List UInt8} {m : Int} (h : Rd w p l 0) (hlen : l.length ≤ 70368744177664) (hr : rd l 0 = ((k : Int), 0, r)) (hm : (k : Int) ≤ m) (hk : k ≤ r.length) :
    Calls Try.prog 39 #[.pointer (some ⟨p, 0, none⟩), .int .i64 m] w fun x w' => x = .returned (.string (strB (r.take k))) ∧ Rd w' p (r.drop k) 0 ∧ Below p w w' :=
  (rtext_only h hlen hr hm hk).mono fun _ _ ⟨h1, h2, h3⟩ => ⟨h1, h2, h3.2.1⟩
end Go.Proofs.Ytpjichkigccfnaa
