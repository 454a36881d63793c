/-
  Layer 11 (disk): what is awake.
-/
import Derived.Test.YtfnbcafilbafgaaDiskMore
namespace Go.Proofs.Ytfnbcafilbafgaa
open Go.RowKit
set_option linter.unusedSimpArgs false
attribute [local go_sem] rowAt_setRow rowAt_setCell
theorem made_zero (n : Nat) : madeCells #[Value.int .u8 0] n = ((List.replicate n (0 : UInt8)).map bc).toArray := by
  refine Array.ext (by rw [made_size]; simp) fun i h1 h2 => ?_
  simp [madeCells, bc, Nat.mod_one]
theorem OwnBy.bt {w w' : World} {p base : Nat} {l xs : List UInt8} {s f : Int} {v : Value} (ho : OwnBy w base v xs) (h : DK w p s l f) (hb : Bt p w w') : OwnBy w' base v xs := by
  refine ⟨ho.1, ho.2.imp id ?_⟩
  rintro ⟨g, cap, cur, h1, h2, h3, h4⟩
  refine ⟨g, cap, cur, h1, h2, (hb.block g (Array.getElem?_eq_some_iff.1 h3).1 ?_).trans h3, h4⟩
  rintro rfl
  obtain ⟨A, c, k1, _⟩ := h
  have k2 := rowAt_iff.1 k1
  rw [h3] at k2
  injection k2 with k2
  injection k2 with _ k3
  exact absurd k3 (by decide)
theorem crash_is {w : World} {p f : Nat} {s : Int} {l : List UInt8} (a b : Int) (h : DK w p s l f) (hf : f ≤ l.length) (hlen : l.length ≤ 1099511627776) {k : Nat} (hk : crashI l.length f a b = k) :
    Calls Try.prog 17 #[.pointer (some ⟨p, 0, none⟩), .int .i64 a, .int .i64 b] w fun e w' => e = .returned (.tuple #[]) ∧ DK w' p s (l.take k) k ∧ Bt p w w' := by
  have := dcrash_any a b h hf hlen
  rwa [hk, Int.toNat_natCast] at this
set_option maxRecDepth 10000 in
set_option maxHeartbeats 2000000 in
theorem awake11 (w : World) : Calls Try.prog 10 #[] w fun e w' => e = .returned (.bool true) ∧ Below w.heap.size w w' := by
  have mk1 : ∀ w : World, (Instr.makeSlice 26 (.int .i64 100) (.int .i64 100)).run Try.prog w = .ok (.slice (some ⟨w.heap.size, 0, none⟩) 100 100) (w.alloc (.cells (madeCells #[.int .u8 0] 100) 5)) :=
    fun w => run_make_row' (P := Try.prog) 26 5 (.int .u8 0) 1 Try.underlying26 (by kernel_rfl) rfl .i64 .i64 100 (by decide) (by decide) w
  have mk2 : ∀ w : World, (Instr.makeSlice 26 (.int .i64 200) (.int .i64 200)).run Try.prog w = .ok (.slice (some ⟨w.heap.size, 0, none⟩) 200 200) (w.alloc (.cells (madeCells #[.int .u8 0] 200) 5)) :=
    fun w => run_make_row' (P := Try.prog) 26 5 (.int .u8 0) 1 Try.underlying26 (by kernel_rfl) rfl .i64 .i64 200 (by decide) (by decide) w
  obtain ⟨L1, hL1, hE1⟩ : ∃ L1 : List UInt8, L1.length = 100 ∧ madeCells #[Value.int .u8 0] 100 = (L1.map bc).toArray := ⟨List.replicate 100 0, by simp, made_zero 100⟩
  obtain ⟨L2, hL2, hE2⟩ : ∃ L2 : List UInt8, L2.length = 200 ∧ madeCells #[Value.int .u8 0] 200 = (L2.map bc).toArray := ⟨List.replicate 200 0, by simp, made_zero 200⟩
  rw [hE1] at mk1
  rw [hE2] at mk2
  have H1 := Lib.hid hL1
  have H2 := Lib.hid hL2
  clear hE1 hE2 hL1 hL2
  go_enter Try.func10, Try.ntmps10
  go_wp2_with fail
  refine (dnew_any 10 (by decide) (by decide) w).mono ?_
  rintro e w1 ⟨p, rfl, hd, hp, hb⟩
  have HD := Lib.hid hd
  have HB := Lib.hid hb
  clear hd hb
  go_wp2_with fail
  refine (dappend_is (t := L1) (HD.out.below ((Below.refl _ _).alloc (Nat.le_refl _) _)) (by decide) (by decide) (by simp) (isBy_full (rowAt_alloc_at _ _ _ _ rfl)) (fun h => by cases h) (by rw [H1.out]; simp) H1.out).mono ?_
  rintro e w2 ⟨rfl, hd, hb⟩
  have HD2 := Lib.hid hd
  have HB2 := Lib.hid (HB.out.trans (((Below.refl w1.heap.size w1).alloc (Nat.le_refl _) _).mono HB.out.size |>.trans (hb.below hp (Nat.le_trans HB.out.size (by simp)))))
  clear hd hb
  go_wp2_with fail
  refine (dsync_any HD2.out).mono ?_
  rintro e w3 ⟨rfl, hd, hb⟩
  have HD3 : Hid (DK w3 p (10 * 64) L1 (100 : Nat)) := Lib.hid (by rw [List.nil_append, H1.out] at hd; exact hd)
  have HB3 := Lib.hid (HB2.out.trans (hb.below hp HB2.out.size))
  clear hd hb
  go_wp2_with fail
  refine (dappend_is (t := L2) (HD3.out.below ((Below.refl _ _).alloc (Nat.le_refl _) _)) (by decide) (by decide) (by rw [H1.out]; decide) (isBy_full (rowAt_alloc_at _ _ _ _ rfl)) (fun h => by cases h) (by rw [H1.out, H2.out]; decide) H2.out).mono ?_
  rintro e w4 ⟨rfl, hd, hb⟩
  have HD4 := Lib.hid hd
  have HB4 := Lib.hid (HB3.out.trans (((Below.refl w3.heap.size w3).alloc (Nat.le_refl _) _).mono HB3.out.size |>.trans (hb.below hp (Nat.le_trans HB3.out.size (by simp)))))
  clear hd hb
  have h300 : (L1 ++ L2).length = 300 := by rw [List.length_append, H1.out, H2.out]
  have H300 := Lib.hid h300
  clear h300
  go_wp2_with fail
  refine (crash_is (k := 197) 2 5 HD4.out (by rw [H300.out]; decide) (by rw [H300.out]; decide) (by rw [H300.out]; decide)).mono ?_
  rintro e w5 ⟨rfl, hd, hb⟩
  have HB5 := Lib.hid (HB4.out.trans (hb.below hp HB4.out.size))
  have h197 : ((L1 ++ L2).take 197).length = 197 := by rw [List.length_take, H300.out]; decide
  generalize (L1 ++ L2).take 197 = L3 at *
  have HD5 := Lib.hid hd
  have H197 := Lib.hid h197
  clear hd hb h197
  go_wp2_with (go_at_call 13; refine (dsafe_any HD5.out).mono ?_; rintro e w' ⟨rfl, rfl⟩)
  refine (dbytes_any HD5.out (by rw [H197.out]; decide)).mono ?_
  rintro e w6 ⟨g, rfl, _, _, hb⟩
  rw [H197.out]
  have HD6 := Lib.hid (HD5.out.below hb)
  have HB6 := Lib.hid (bthen HB5.out hb)
  clear hb
  go_wp2_with fail
  refine (droom_any HD6.out (by decide) (by decide) (by rw [H197.out]; decide)).mono ?_
  rintro e w7 ⟨rfl, hb⟩
  have HB7 := Lib.hid (bthen HB6.out hb)
  rw [H197.out]
  clear hb
  go_wp2_with fail
  go_ret
  exact ⟨rfl, HB7.out⟩
end Go.Proofs.Ytfnbcafilbafgaa
