/-
  The walk of DiskOwn.
-/
import Derived.Test.YtfnbcafilbafgaaDiskRoomWalk
namespace Go.Proofs.Ytfnbcafilbafgaa
open Go.RowKit
set_option linter.unusedSimpArgs false
attribute [local go_sem] rowAt_setRow rowAt_setCell
theorem no_append (B : Option Addr) (n c : Nat) (w : World) : Calls Try.prog 11 #[.pointer none, .slice B n c] w fun e w' => e = .returned (.int .i64 1) ∧ w = w' := by
  go_enter Try.func11, Try.ntmps11
  go_wp2_with fail
  go_ret
  exact ⟨rfl, rfl⟩
theorem no_swap (B : Option Addr) (n c : Nat) (w : World) : Calls Try.prog 19 #[.pointer none, .slice B n c] w fun e w' => e = .returned (.int .i64 1) ∧ w = w' := by
  go_enter Try.func19, Try.ntmps19
  go_wp2_with fail
  go_ret
  exact ⟨rfl, rfl⟩
theorem no_cut (n : Int) (w : World) : Calls Try.prog 20 #[.pointer none, .int .i64 n] w fun e w' => e = .returned (.int .i64 1) ∧ w = w' := by
  go_enter Try.func20, Try.ntmps20
  go_wp2_with fail
  go_ret
  exact ⟨rfl, rfl⟩
theorem no_bytes (w : World) : Calls Try.prog 12 #[.pointer none] w fun e w' => e = .returned (.slice none 0 0) ∧ w = w' := by
  go_enter Try.func12, Try.ntmps12
  go_wp2_with fail
  go_ret
  exact ⟨rfl, rfl⟩
theorem no_safe (w : World) : Calls Try.prog 13 #[.pointer none] w fun e w' => e = .returned (.int .i64 0) ∧ w = w' := by
  go_enter Try.func13, Try.ntmps13
  go_wp2_with fail
  go_ret
  exact ⟨rfl, rfl⟩
theorem no_room (w : World) : Calls Try.prog 16 #[.pointer none] w fun e w' => e = .returned (.int .i64 0) ∧ w = w' := by
  go_enter Try.func16, Try.ntmps16
  go_wp2_with fail
  go_ret
  exact ⟨rfl, rfl⟩
theorem no_sync (w : World) : Calls Try.prog 18 #[.pointer none] w fun e w' => e = .returned (.tuple #[]) ∧ w = w' := by
  go_enter Try.func18, Try.ntmps18
  go_wp2_with fail
  first | refine bodyPost_ret (v := .tuple #[]) (by simp [results, show Try.f18.results = #[] from rfl]) rfl ?_ | refine bodyPost_end (v := .tuple #[]) (by simp [results, show Try.f18.results = #[] from rfl]) rfl ?_
  exact ⟨rfl, rfl⟩
/-- The disk's bytes do not lie in block g. -/
def Off (g : Nat) (l : List UInt8) (A : Option Addr) : Prop := A = none ∨ (l ≠ [] ∧ ∀ x, A = some x → x.block ≠ g)
theorem DKX.off {w w' : World} {p g : Nat} {l : List UInt8} {s f : Int} (h : DKX (Off g l) w p s l f) (hb : Bt g w w') (hp : p ≠ g) : DKX (Off g l) w' p s l f := by
  obtain ⟨A, c, h1, h2, h3, h4, h5⟩ := h
  refine ⟨A, c, (hb.row (rowAt_lt h1) hp).trans h1, fun i hi => ?_, h3, h4, h5⟩
  obtain ⟨b, o, g1, g2⟩ := h2 i hi
  rcases h5 with rfl | ⟨_, h5⟩
  · cases g1
  · exact ⟨b, o, g1, (hb.cell (World.block_lt_of_cell? _ _ g2) (show b ≠ g from h5 ⟨b, o, none⟩ g1)).trans g2⟩
/-- Row g has bytes in its first n cells. -/
def Row8 (w : World) (g n : Nat) : Prop := ∃ cur, rowAt w g = some (cur, 5) ∧ ∀ i, i < n → ∃ y : UInt8, cur[i]? = some (bc y)
theorem Row8.set {w : World} {g n i : Nat} {m : Int} (h : Row8 w g n) (hm : 0 ≤ m ∧ m < 256) : Row8 (w.setCell ⟨g, i, none⟩ (.int .u8 m)) g n := by
  obtain ⟨cur, h1, h2⟩ := h
  refine ⟨_, rowAt_setCell_same i _ h1, fun j hj => ?_⟩
  by_cases hij : j = i
  · subst hij
    obtain ⟨y, hy⟩ := h2 j hj
    refine ⟨UInt8.ofNat m.toNat, ?_⟩
    rw [Array.getElem?_setIfInBounds_self_of_lt (Array.getElem?_eq_some_iff.1 hy).1, bc, UInt8.toNat_ofNat']
    congr 2
    rw [Nat.mod_eq_of_lt (by omega)]
    omega
  · rw [Array.getElem?_setIfInBounds_ne (fun h => hij h.symm)]
    exact h2 j hj
theorem row8_own {w : World} {base g c : Nat} {l : List UInt8} (h : OwnBy w base (.slice (some ⟨g, 0, none⟩) l.length c) l) : Row8 w g l.length := by
  rcases h.2 with ⟨hv, _⟩ | ⟨g', cap, cur, hv, _, hg, _, _, _, htk⟩
  · cases hv
  · injection hv with hv _ _
    injection hv with hv
    injection hv with hv _
    subst hv
    refine ⟨cur, rowAt_iff.2 hg, fun i hi => ⟨l.getD i 0, ?_⟩⟩
    have h1 : (cur.toList.take (l.length * 1))[i]? = cur[i]? := by rw [List.getElem?_take, if_pos (by omega)]; simp
    rw [← h1, htk]
    simp [List.getD, List.getElem?_eq_getElem hi]
theorem row8_full {w : World} {g : Nat} {l : List UInt8} (h : rowAt w g = some ((l.map bc).toArray, 5)) : Row8 w g l.length :=
  ⟨_, h, fun i hi => ⟨l.getD i 0, by simp [List.getD, List.getElem?_eq_getElem hi]⟩⟩
set_option maxRecDepth 10000 in
set_option maxHeartbeats 8000000 in
theorem diskOwn_walk (A : Option Addr) (c : Nat) (l : List UInt8) (hm : l.length ≤ 9223372036854775807 ∧ (A = none → c = 0 ∧ l = []) ∧ l.length ≤ c) (n : Int) (_hn : -9223372036854775808 ≤ n ∧ n ≤ 9223372036854775807) (w : World) (hl : IsBy w A l) :
    Calls Try.prog 6 #[.slice A l.length c, .int .i64 n] w fun e w' => e = .returned (.bool true) ∧ Below w.heap.size w w' := by
  obtain ⟨hm1, hm2, hm3⟩ := hm
  have HL := Lib.hid hl
  have HA : Hid (A = none → c = 0) := Lib.hid fun h => (hm2 h).1
  clear hl hm2 _hn
  go_enter Try.func6, Try.ntmps6
  by_cases hL : l.length ≤ 400
  · have hL' : (l.length : Int) ≤ 400 := by omega
    go_wp2_with fail
    refine (dnew_anyX 20 (by decide) (by decide) w).mono ?_
    rintro e w1 ⟨p, rfl, hd, hp, hb⟩
    have HD := Lib.hid hd
    have HB := Lib.hid hb
    have HL1 := Lib.hid (HL.out.below hb)
    clear hd hb
    go_wp2_with (at_builtin; refine wl_append_bytes rfl _ _ rfl w1.heap.size _ [] l A c rfl ?c1 rfl ?c2 HA.out ?c3 ?c4 ?_)
    case c1 => exact OwnBy.row (xs := []) (rowAt_alloc_at _ _ _ _ rfl) (by decide)
    case c2 => exact HL1.out.alloc _
    case c3 => simp; omega
    case c4 => simp
    intro v' w2 hown hb
    have hb2 : Below w1.heap.size w1 w2 := ((Below.refl _ _).alloc (Nat.le_refl _) _).trans hb
    have HD2 := Lib.hid (HD.out.below hb2)
    have HB2 := Lib.hid (bthen HB.out hb2)
    have hpl : p < w1.heap.size := HD.out.dk.lt
    obtain ⟨A7, c7, rfl, i1, i2, _, i4⟩ := hown.isBy
    have I1 := Lib.hid i1
    have I2 := Lib.hid i2
    have I4 := Lib.hid i4
    have HO := Lib.hid hown
    clear hown hb hb2 i1 i2 i4 HD
    have hfree : ∃ g : Nat, g ≠ p ∧ (l ≠ [] → A7 = some ⟨g, 0, none⟩ ∧ w1.heap.size ≤ g ∧ g < w2.heap.size) ∧ w1.heap.size ≤ g := by
      rcases HO.out.2 with ⟨hv, hn0⟩ | ⟨g, cap, cur, hv, hbg, hg, _⟩
      · exact ⟨w1.heap.size, by omega, fun hn => absurd (List.eq_nil_of_length_eq_zero hn0) hn, Nat.le_refl _⟩
      · injection hv with hv _ _
        exact ⟨g, by omega, fun _ => ⟨hv, hbg, (Array.getElem?_eq_some_iff.1 hg).1⟩, hbg⟩
    obtain ⟨g, hgp, hgA, hg1⟩ := hfree
    have HGA := Lib.hid hgA
    clear hgA
    go_wp2_with fail
    refine (dappend_okX (X := Off g l) (HD2.out.mono fun A1 _ h => Or.inl h) (fun ht x hx => Or.inr ⟨ht, fun y hy => by
      injection hy with hy
      subst hy
      have := (HGA.out ht).2.2
      omega⟩) (by decide) (by decide) (by decide) I1.out I2.out (by simp; omega)).mono ?_
    rintro e w3 ⟨rfl, hd, hb⟩
    rw [List.nil_append] at hd
    have HD3 := Lib.hid hd
    have hw2 : w.heap.size ≤ w2.heap.size := HB2.out.size
    have HB3 := Lib.hid (HB2.out.trans (hb.below hp hw2))
    have HR3 : Hid (l ≠ [] → Row8 w3 g l.length) := Lib.hid fun hn => by
      obtain ⟨k1, k2, k3⟩ := HGA.out hn
      have hro := row8_own (c := c7) (by rw [← k1]; exact HO.out)
      obtain ⟨cur, r1, r2⟩ := hro
      exact ⟨cur, (hb.row k3 hgp).trans r1, r2⟩
    clear hd hb HD2 HB2
    go_wp2_with fail
    go_loopw [25] (fun i w' => ∃ k : Nat, k ≤ l.length ∧ i = .int .i64 k ∧ DKX (Off g l) w' p (20 * 64) l 0 ∧ (l ≠ [] → Row8 w' g l.length) ∧ Below w.heap.size w w') (fun i _ => l.length - (intOf i).toNat)
    case atStart => exact ⟨0, Nat.zero_le _, rfl, HD3.out, HR3.out, HB3.out⟩
    case round =>
      rename World => wr
      obtain ⟨k, hk, rfl, hd, hr, hb⟩ := hrel
      have HD4 := Lib.hid hd
      have HB4 := Lib.hid hb
      clear hd hb HD3 HB3 HR3
      by_cases hlt : k < l.length
      · have hn0 : l ≠ [] := by intro h; rw [h] at hlt; simp at hlt
        have hr4 := hr hn0
        obtain ⟨k1, _, _⟩ := HGA.out hn0
        subst k1
        have HR4 := Lib.hid hr4
        obtain ⟨cur, r1, r2⟩ := hr4
        obtain ⟨y, hy⟩ := r2 k hlt
        have dk : wr.cell? ⟨g, k, none⟩ = some (.int .u8 (y.toNat : Int)) := by rw [cell_of_rowAt r1, hy]; rfl
        have fk : wr.frozen? ⟨g, k, none⟩ = false := frozen_of_rowAt r1 k
        have hy256 := y.toNat_lt
        clear hr r1 r2 hy hn0
        generalize y.toNat = y0 at *
        go_wp2_with fail
        go_roundw
        case rel => exact ⟨k + 1, by omega, by go_num, HD4.out.off (Bt.setCell _ _ _ _) hgp.symm, fun _ => HR4.out.set (by omega), below_setCell' HB4.out (by omega)⟩
        case measure => simp [intOf]; omega
      · have HDK := Lib.hid HD4.out.dk
        clear hr
        go_wp2_with fail
        refine (dbytes_any HDK.out (by omega)).mono ?_
        rintro e w5 ⟨g2, rfl, hr5, hg2, hb⟩
        have HB5 := Lib.hid (bthen HB4.out hb)
        have HR5 := Lib.hid (row8_full hr5)
        have hcv1 : (convert 26 9 (.slice (some ⟨g2, 0, none⟩) l.length l.length)).run Try.prog w5 = .ok (.string (strD l)) w5 := convD (isBy_full hr5)
        have hcv2 : (convert 26 9 (.slice A l.length c)).run Try.prog w5 = .ok (.string (strD l)) w5 := convD (HL.out.below HB5.out)
        have hp5 : p ≠ g2 := by have := HDK.out.lt; omega
        have HD5 : Hid (DKX (Off g2 l) w5 p (20 * 64) l 0) := Lib.hid ((HD4.out.mono fun A1 i1 h => h.imp id fun ⟨a1, _⟩ => ⟨a1, fun x hx => by
          obtain ⟨b, o, q1, q2⟩ := i1 0 (by cases l with | nil => exact absurd rfl a1 | cons _ _ => simp)
          rw [hx] at q1
          injection q1 with q1
          subst q1
          have : b < wr.heap.size := World.block_lt_of_cell? _ _ q2
          show b ≠ g2
          omega⟩).below hb)
        have hg2w : w.heap.size ≤ g2 := Nat.le_trans HB4.out.size hg2
        clear hr5 hb HB4 HD4 HDK
        go_wp2_with fail
        go_loopw [48] (fun i w' => ∃ k : Nat, k ≤ l.length ∧ i = .int .i64 k ∧ DKX (Off g2 l) w' p (20 * 64) l 0 ∧ Row8 w' g2 l.length ∧ Below w.heap.size w w') (fun i _ => l.length - (intOf i).toNat)
        case atStart => exact ⟨0, Nat.zero_le _, rfl, HD5.out, HR5.out, HB5.out⟩
        case round =>
          rename World => wz
          obtain ⟨j, hj, rfl, hd, hr, hb⟩ := hrel
          have HD6 := Lib.hid hd
          have HB6 := Lib.hid hb
          have HR6 := Lib.hid hr
          clear hd hb HD5 HB5 HR5 hcv1 hcv2
          by_cases hlt2 : j < l.length
          · obtain ⟨cur, r1, r2⟩ := hr
            obtain ⟨y, hy⟩ := r2 j hlt2
            have dk : wz.cell? ⟨g2, j, none⟩ = some (.int .u8 (y.toNat : Int)) := by rw [cell_of_rowAt r1, hy]; rfl
            have fk : wz.frozen? ⟨g2, j, none⟩ = false := frozen_of_rowAt r1 j
            have hy256 := y.toNat_lt
            clear r1 r2 hy
            generalize y.toNat = y0 at *
            go_wp2_with fail
            go_roundw
            case rel => exact ⟨j + 1, by omega, by go_num, HD6.out.off (Bt.setCell _ _ _ _) hp5, HR6.out.set (by omega), below_setCell' HB6.out (by omega)⟩
            case measure => simp [intOf]; omega
          · clear hr
            go_wp2_with fail
            refine (no_sync _).mono ?_
            rintro e _ ⟨rfl, rfl⟩
            go_wp2_with fail
            refine (crash_none n n _).mono ?_
            rintro e _ ⟨rfl, rfl⟩
            go_upto_region 22 with fail
            have HDK := Lib.hid HD6.out.dk
            refine wp_region_held_drew (S := fun w' : World => IsBy w' A l ∧ DK w' p (20 * 64) l 0 ∧ Hid (Below w.heap.size w w')) (by kernel_rfl) ⟨(HL.out.below HB6.out).below (Below.refl _ _).drew, HDK.out.below (Below.refl _ _).drew, Lib.hid HB6.out.drew⟩ (fun hS => ?_)
            clear HB6 HDK HD6 HR6
            generalize wz.drew = W1 at *
            refine held_take (i := 0) (by simp only [List.getElem?_toArray, List.getElem?_cons_succ, List.getElem?_cons_zero]; rfl) (by decide +kernel) (by decide +kernel) (by decide +kernel) (by exact fun _ _ _ _ h => h) hS (by rfl) ?_
            apply Exists.intro
            refine ⟨fun w' hSw => ?_, ?_⟩
            · go_simp
              with_reducible rfl
            (try simp only [act_put, act_put_none, List.set_cons_zero, List.set_cons_succ])
            refine held_take (i := 3) (by simp only [List.getElem?_toArray, List.getElem?_cons_succ, List.getElem?_cons_zero]; rfl) (by decide +kernel) (by decide +kernel) (by decide +kernel) (by exact fun _ _ _ _ h => h) hS (by rfl) ?_
            apply Exists.intro
            refine ⟨fun w' hSw => ?_, ?_⟩
            · go_simp
              with_reducible rfl
            (try simp only [act_put, act_put_none, List.set_cons_zero, List.set_cons_succ])
            refine held_take (i := 4) (by simp only [List.getElem?_toArray, List.getElem?_cons_succ, List.getElem?_cons_zero]; rfl) (by decide +kernel) (by decide +kernel) (by decide +kernel) (by exact fun _ _ _ _ h => h) hS (by rfl) ?_
            apply Exists.intro
            refine ⟨fun w' hSw => ?_, ?_⟩
            · obtain ⟨q1, _⟩ := hSw
              have hcv := convD (c := c) q1
              go_simp
              with_reducible rfl
            (try simp only [act_put, act_put_none, List.set_cons_zero, List.set_cons_succ])
            refine wpAnyH_ready (rs := [1]) (by decide +kernel) (by simp) ?_
            refine AllReadyH.cons (i := 1) (by simp only [List.getElem?_toArray, List.getElem?_cons_succ, List.getElem?_cons_zero]; rfl) (fun K hK => ?_) ?_
            · go_simp
              go_at_call 12
              refine (dbytes_any hS.2.1 (by omega)).mono ?_
              rintro e v1 ⟨g9, rfl, hr, _, hb⟩
              have HX := Lib.hid hb
              have hby := isBy_full hr
              clear hb hr
              go_simp
              refine hK.out _ _ ⟨hS.1.below HX.out, hS.2.1.below HX.out, Lib.hid (bthen hS.2.2.out HX.out)⟩ (fun hS2 => ?_)
              clear hS hK K
              have hS := hS2
              clear hS2
              clear HX
              (try simp only [act_put, act_put_none, List.set_cons_zero, List.set_cons_succ])
              refine wpAnyH_ready (rs := [2]) (by decide +kernel) (by simp) ?_
              refine AllReadyH.cons (i := 2) (by simp only [List.getElem?_toArray, List.getElem?_cons_succ, List.getElem?_cons_zero]; rfl) (fun K hK => ?_) ?_
              · have hcv := convD (c := l.length) hby
                go_simp
                refine hK.out _ _ hS (fun hS2 => ?_)
                clear hK K hS2 hcv hby
                (try simp only [act_put, act_put_none, List.set_cons_zero, List.set_cons_succ])
                refine held_take (i := 5) (by simp only [List.getElem?_toArray, List.getElem?_cons_succ, List.getElem?_cons_zero]; rfl) (by decide +kernel) (by decide +kernel) (by decide +kernel) (by exact fun _ _ _ _ h => h) hS (by rfl) ?_
                apply Exists.intro
                refine ⟨fun w' hSw => ?_, ?_⟩
                · go_simp
                  with_reducible rfl
                (try simp only [act_put, act_put_none, List.set_cons_zero, List.set_cons_succ])
                refine held_take (i := 6) (by simp only [List.getElem?_toArray, List.getElem?_cons_succ, List.getElem?_cons_zero]; rfl) (by decide +kernel) (by decide +kernel) (by decide +kernel) (by exact fun _ _ _ _ h => h) hS (by rfl) ?_
                apply Exists.intro
                refine ⟨fun w' hSw => ?_, ?_⟩
                · go_simp
                  with_reducible rfl
                (try simp only [act_put, act_put_none, List.set_cons_zero, List.set_cons_succ])
                refine held_take (i := 7) (by simp only [List.getElem?_toArray, List.getElem?_cons_succ, List.getElem?_cons_zero]; rfl) (by decide +kernel) (by decide +kernel) (by decide +kernel) (by exact fun _ _ _ _ h => h) hS (by rfl) ?_
                apply Exists.intro
                refine ⟨fun w' hSw => ?_, ?_⟩
                · go_simp
                  with_reducible rfl
                (try simp only [act_put, act_put_none, List.set_cons_zero, List.set_cons_succ])
                refine held_take (i := 8) (by simp only [List.getElem?_toArray, List.getElem?_cons_succ, List.getElem?_cons_zero]; rfl) (by decide +kernel) (by decide +kernel) (by decide +kernel) (by exact fun _ _ _ _ h => h) hS (by rfl) ?_
                apply Exists.intro
                refine ⟨fun w' hSw => ?_, ?_⟩
                · go_simp
                  with_reducible rfl
                (try simp only [act_put, act_put_none, List.set_cons_zero, List.set_cons_succ])
                refine wpAnyH_ready (rs := [9]) (by decide +kernel) (by simp) ?_
                refine AllReadyH.cons (i := 9) (by simp only [List.getElem?_toArray, List.getElem?_cons_succ, List.getElem?_cons_zero]; rfl) (fun K hK => ?_) ?_
                · go_simp
                  go_at_call 11
                  refine (no_append _ _ _ _).mono ?_
                  rintro e _ ⟨rfl, rfl⟩
                  go_simp
                  refine hK.out _ _ hS (fun hS2 => ?_)
                  clear hK K hS2
                  (try simp only [act_put, act_put_none, List.set_cons_zero, List.set_cons_succ])
                  refine held_take (i := 10) (by simp only [List.getElem?_toArray, List.getElem?_cons_succ, List.getElem?_cons_zero]; rfl) (by decide +kernel) (by decide +kernel) (by decide +kernel) (by exact fun _ _ _ _ h => h) hS (by rfl) ?_
                  apply Exists.intro
                  refine ⟨fun w' hSw => ?_, ?_⟩
                  · go_simp
                    with_reducible rfl
                  (try simp only [act_put, act_put_none, List.set_cons_zero, List.set_cons_succ])
                  refine held_take (i := 11) (by simp only [List.getElem?_toArray, List.getElem?_cons_succ, List.getElem?_cons_zero]; rfl) (by decide +kernel) (by decide +kernel) (by decide +kernel) (by exact fun _ _ _ _ h => h) hS (by rfl) ?_
                  apply Exists.intro
                  refine ⟨fun w' hSw => ?_, ?_⟩
                  · go_simp
                    with_reducible rfl
                  (try simp only [act_put, act_put_none, List.set_cons_zero, List.set_cons_succ])
                  refine held_take (i := 12) (by simp only [List.getElem?_toArray, List.getElem?_cons_succ, List.getElem?_cons_zero]; rfl) (by decide +kernel) (by decide +kernel) (by decide +kernel) (by exact fun _ _ _ _ h => h) hS (by rfl) ?_
                  apply Exists.intro
                  refine ⟨fun w' hSw => ?_, ?_⟩
                  · go_simp
                    with_reducible rfl
                  (try simp only [act_put, act_put_none, List.set_cons_zero, List.set_cons_succ])
                  refine held_take (i := 13) (by simp only [List.getElem?_toArray, List.getElem?_cons_succ, List.getElem?_cons_zero]; rfl) (by decide +kernel) (by decide +kernel) (by decide +kernel) (by exact fun _ _ _ _ h => h) hS (by rfl) ?_
                  apply Exists.intro
                  refine ⟨fun w' hSw => ?_, ?_⟩
                  · go_simp
                    with_reducible rfl
                  (try simp only [act_put, act_put_none, List.set_cons_zero, List.set_cons_succ])
                  refine held_take (i := 14) (by simp only [List.getElem?_toArray, List.getElem?_cons_succ, List.getElem?_cons_zero]; rfl) (by decide +kernel) (by decide +kernel) (by decide +kernel) (by exact fun _ _ _ _ h => h) hS (by rfl) ?_
                  apply Exists.intro
                  refine ⟨fun w' hSw => ?_, ?_⟩
                  · go_simp
                    with_reducible rfl
                  (try simp only [act_put, act_put_none, List.set_cons_zero, List.set_cons_succ])
                  refine wpAnyH_ready (rs := [15]) (by decide +kernel) (by simp) ?_
                  refine AllReadyH.cons (i := 15) (by simp only [List.getElem?_toArray, List.getElem?_cons_succ, List.getElem?_cons_zero]; rfl) (fun K hK => ?_) ?_
                  · go_simp
                    go_at_call 19
                    refine (no_swap _ _ _ _).mono ?_
                    rintro e _ ⟨rfl, rfl⟩
                    go_simp
                    refine hK.out _ _ hS (fun hS2 => ?_)
                    clear hK K hS2
                    (try simp only [act_put, act_put_none, List.set_cons_zero, List.set_cons_succ])
                    refine held_take (i := 16) (by simp only [List.getElem?_toArray, List.getElem?_cons_succ, List.getElem?_cons_zero]; rfl) (by decide +kernel) (by decide +kernel) (by decide +kernel) (by exact fun _ _ _ _ h => h) hS (by rfl) ?_
                    apply Exists.intro
                    refine ⟨fun w' hSw => ?_, ?_⟩
                    · go_simp
                      with_reducible rfl
                    (try simp only [act_put, act_put_none, List.set_cons_zero, List.set_cons_succ])
                    refine held_take (i := 17) (by simp only [List.getElem?_toArray, List.getElem?_cons_succ, List.getElem?_cons_zero]; rfl) (by decide +kernel) (by decide +kernel) (by decide +kernel) (by exact fun _ _ _ _ h => h) hS (by rfl) ?_
                    apply Exists.intro
                    refine ⟨fun w' hSw => ?_, ?_⟩
                    · go_simp
                      with_reducible rfl
                    (try simp only [act_put, act_put_none, List.set_cons_zero, List.set_cons_succ])
                    refine held_take (i := 18) (by simp only [List.getElem?_toArray, List.getElem?_cons_succ, List.getElem?_cons_zero]; rfl) (by decide +kernel) (by decide +kernel) (by decide +kernel) (by exact fun _ _ _ _ h => h) hS (by rfl) ?_
                    apply Exists.intro
                    refine ⟨fun w' hSw => ?_, ?_⟩
                    · go_simp
                      with_reducible rfl
                    (try simp only [act_put, act_put_none, List.set_cons_zero, List.set_cons_succ])
                    refine held_take (i := 19) (by simp only [List.getElem?_toArray, List.getElem?_cons_succ, List.getElem?_cons_zero]; rfl) (by decide +kernel) (by decide +kernel) (by decide +kernel) (by exact fun _ _ _ _ h => h) hS (by rfl) ?_
                    apply Exists.intro
                    refine ⟨fun w' hSw => ?_, ?_⟩
                    · go_simp
                      with_reducible rfl
                    (try simp only [act_put, act_put_none, List.set_cons_zero, List.set_cons_succ])
                    refine held_take (i := 20) (by simp only [List.getElem?_toArray, List.getElem?_cons_succ, List.getElem?_cons_zero]; rfl) (by decide +kernel) (by decide +kernel) (by decide +kernel) (by exact fun _ _ _ _ h => h) hS (by rfl) ?_
                    apply Exists.intro
                    refine ⟨fun w' hSw => ?_, ?_⟩
                    · go_simp
                      with_reducible rfl
                    (try simp only [act_put, act_put_none, List.set_cons_zero, List.set_cons_succ])
                    refine wpAnyH_ready (rs := [21]) (by decide +kernel) (by simp) ?_
                    refine AllReadyH.cons (i := 21) (by simp only [List.getElem?_toArray, List.getElem?_cons_succ, List.getElem?_cons_zero]; rfl) (fun K hK => ?_) ?_
                    · go_simp
                      go_at_call 20
                      refine (no_cut _ _).mono ?_
                      rintro e _ ⟨rfl, rfl⟩
                      go_simp
                      refine hK.out _ _ hS (fun hS2 => ?_)
                      clear hK K hS2
                      (try simp only [act_put, act_put_none, List.set_cons_zero, List.set_cons_succ])
                      refine held_take (i := 22) (by simp only [List.getElem?_toArray, List.getElem?_cons_succ, List.getElem?_cons_zero]; rfl) (by decide +kernel) (by decide +kernel) (by decide +kernel) (by exact fun _ _ _ _ h => h) hS (by rfl) ?_
                      apply Exists.intro
                      refine ⟨fun w' hSw => ?_, ?_⟩
                      · go_simp
                        with_reducible rfl
                      (try simp only [act_put, act_put_none, List.set_cons_zero, List.set_cons_succ])
                      refine held_take (i := 23) (by simp only [List.getElem?_toArray, List.getElem?_cons_succ, List.getElem?_cons_zero]; rfl) (by decide +kernel) (by decide +kernel) (by decide +kernel) (by exact fun _ _ _ _ h => h) hS (by rfl) ?_
                      apply Exists.intro
                      refine ⟨fun w' hSw => ?_, ?_⟩
                      · go_simp
                        with_reducible rfl
                      (try simp only [act_put, act_put_none, List.set_cons_zero, List.set_cons_succ])
                      refine held_take (i := 24) (by simp only [List.getElem?_toArray, List.getElem?_cons_succ, List.getElem?_cons_zero]; rfl) (by decide +kernel) (by decide +kernel) (by decide +kernel) (by exact fun _ _ _ _ h => h) hS (by rfl) ?_
                      apply Exists.intro
                      refine ⟨fun w' hSw => ?_, ?_⟩
                      · go_simp
                        with_reducible rfl
                      (try simp only [act_put, act_put_none, List.set_cons_zero, List.set_cons_succ])
                      refine held_take (i := 25) (by simp only [List.getElem?_toArray, List.getElem?_cons_succ, List.getElem?_cons_zero]; rfl) (by decide +kernel) (by decide +kernel) (by decide +kernel) (by exact fun _ _ _ _ h => h) hS (by rfl) ?_
                      apply Exists.intro
                      refine ⟨fun w' hSw => ?_, ?_⟩
                      · go_simp
                        with_reducible rfl
                      (try simp only [act_put, act_put_none, List.set_cons_zero, List.set_cons_succ])
                      refine wpAnyH_ready (rs := [26]) (by decide +kernel) (by simp) ?_
                      refine AllReadyH.cons (i := 26) (by simp only [List.getElem?_toArray, List.getElem?_cons_succ, List.getElem?_cons_zero]; rfl) (fun K hK => ?_) ?_
                      · go_simp
                        go_at_call 12
                        refine (no_bytes _).mono ?_
                        rintro e _ ⟨rfl, rfl⟩
                        go_simp
                        refine hK.out _ _ hS (fun hS2 => ?_)
                        clear hK K hS2
                        (try simp only [act_put, act_put_none, List.set_cons_zero, List.set_cons_succ])
                        refine held_take (i := 27) (by simp only [List.getElem?_toArray, List.getElem?_cons_succ, List.getElem?_cons_zero]; rfl) (by decide +kernel) (by decide +kernel) (by decide +kernel) (by exact fun _ _ _ _ h => h) hS (by rfl) ?_
                        apply Exists.intro
                        refine ⟨fun w' hSw => ?_, ?_⟩
                        · go_simp
                          with_reducible rfl
                        (try simp only [act_put, act_put_none, List.set_cons_zero, List.set_cons_succ])
                        refine held_take (i := 28) (by simp only [List.getElem?_toArray, List.getElem?_cons_succ, List.getElem?_cons_zero]; rfl) (by decide +kernel) (by decide +kernel) (by decide +kernel) (by exact fun _ _ _ _ h => h) hS (by rfl) ?_
                        apply Exists.intro
                        refine ⟨fun w' hSw => ?_, ?_⟩
                        · go_simp
                          with_reducible rfl
                        (try simp only [act_put, act_put_none, List.set_cons_zero, List.set_cons_succ])
                        refine held_take (i := 29) (by simp only [List.getElem?_toArray, List.getElem?_cons_succ, List.getElem?_cons_zero]; rfl) (by decide +kernel) (by decide +kernel) (by decide +kernel) (by exact fun _ _ _ _ h => h) hS (by rfl) ?_
                        apply Exists.intro
                        refine ⟨fun w' hSw => ?_, ?_⟩
                        · go_simp
                          with_reducible rfl
                        (try simp only [act_put, act_put_none, List.set_cons_zero, List.set_cons_succ])
                        refine held_take (i := 30) (by simp only [List.getElem?_toArray, List.getElem?_cons_succ, List.getElem?_cons_zero]; rfl) (by decide +kernel) (by decide +kernel) (by decide +kernel) (by exact fun _ _ _ _ h => h) hS (by rfl) ?_
                        apply Exists.intro
                        refine ⟨fun w' hSw => ?_, ?_⟩
                        · go_simp
                          with_reducible rfl
                        (try simp only [act_put, act_put_none, List.set_cons_zero, List.set_cons_succ])
                        refine held_take (i := 31) (by simp only [List.getElem?_toArray, List.getElem?_cons_succ, List.getElem?_cons_zero]; rfl) (by decide +kernel) (by decide +kernel) (by decide +kernel) (by exact fun _ _ _ _ h => h) hS (by rfl) ?_
                        apply Exists.intro
                        refine ⟨fun w' hSw => ?_, ?_⟩
                        · go_simp
                          with_reducible rfl
                        (try simp only [act_put, act_put_none, List.set_cons_zero, List.set_cons_succ])
                        refine wpAnyH_ready (rs := [32]) (by decide +kernel) (by simp) ?_
                        refine AllReadyH.cons (i := 32) (by simp only [List.getElem?_toArray, List.getElem?_cons_succ, List.getElem?_cons_zero]; rfl) (fun K hK => ?_) ?_
                        · go_simp
                          go_at_call 13
                          refine (no_safe _).mono ?_
                          rintro e _ ⟨rfl, rfl⟩
                          go_simp
                          refine hK.out _ _ hS (fun hS2 => ?_)
                          clear hK K hS2
                          (try simp only [act_put, act_put_none, List.set_cons_zero, List.set_cons_succ])
                          refine held_take (i := 33) (by simp only [List.getElem?_toArray, List.getElem?_cons_succ, List.getElem?_cons_zero]; rfl) (by decide +kernel) (by decide +kernel) (by decide +kernel) (by exact fun _ _ _ _ h => h) hS (by rfl) ?_
                          apply Exists.intro
                          refine ⟨fun w' hSw => ?_, ?_⟩
                          · go_simp
                            with_reducible rfl
                          (try simp only [act_put, act_put_none, List.set_cons_zero, List.set_cons_succ])
                          refine held_take (i := 34) (by simp only [List.getElem?_toArray, List.getElem?_cons_succ, List.getElem?_cons_zero]; rfl) (by decide +kernel) (by decide +kernel) (by decide +kernel) (by exact fun _ _ _ _ h => h) hS (by rfl) ?_
                          apply Exists.intro
                          refine ⟨fun w' hSw => ?_, ?_⟩
                          · go_simp
                            with_reducible rfl
                          (try simp only [act_put, act_put_none, List.set_cons_zero, List.set_cons_succ])
                          refine held_take (i := 35) (by simp only [List.getElem?_toArray, List.getElem?_cons_succ, List.getElem?_cons_zero]; rfl) (by decide +kernel) (by decide +kernel) (by decide +kernel) (by exact fun _ _ _ _ h => h) hS (by rfl) ?_
                          apply Exists.intro
                          refine ⟨fun w' hSw => ?_, ?_⟩
                          · go_simp
                            with_reducible rfl
                          (try simp only [act_put, act_put_none, List.set_cons_zero, List.set_cons_succ])
                          refine held_take (i := 36) (by simp only [List.getElem?_toArray, List.getElem?_cons_succ, List.getElem?_cons_zero]; rfl) (by decide +kernel) (by decide +kernel) (by decide +kernel) (by exact fun _ _ _ _ h => h) hS (by rfl) ?_
                          apply Exists.intro
                          refine ⟨fun w' hSw => ?_, ?_⟩
                          · go_simp
                            with_reducible rfl
                          (try simp only [act_put, act_put_none, List.set_cons_zero, List.set_cons_succ])
                          refine wpAnyH_ready (rs := [37]) (by decide +kernel) (by simp) ?_
                          refine AllReadyH.cons (i := 37) (by simp only [List.getElem?_toArray, List.getElem?_cons_succ, List.getElem?_cons_zero]; rfl) (fun K hK => ?_) ?_
                          · go_simp
                            go_at_call 16
                            refine (no_room _).mono ?_
                            rintro e _ ⟨rfl, rfl⟩
                            go_simp
                            refine hK.out _ _ hS (fun hS2 => ?_)
                            clear hK K hS2
                            (try simp only [act_put, act_put_none, List.set_cons_zero, List.set_cons_succ])
                            refine held_take (i := 38) (by simp only [List.getElem?_toArray, List.getElem?_cons_succ, List.getElem?_cons_zero]; rfl) (by decide +kernel) (by decide +kernel) (by decide +kernel) (by exact fun _ _ _ _ h => h) hS (by rfl) ?_
                            apply Exists.intro
                            refine ⟨fun w' hSw => ?_, ?_⟩
                            · go_simp
                              with_reducible rfl
                            (try simp only [act_put, act_put_none, List.set_cons_zero, List.set_cons_succ])
                            refine held_take (i := 39) (by simp only [List.getElem?_toArray, List.getElem?_cons_succ, List.getElem?_cons_zero]; rfl) (by decide +kernel) (by decide +kernel) (by decide +kernel) (by exact fun _ _ _ _ h => h) hS (by rfl) ?_
                            apply Exists.intro
                            refine ⟨fun w' hSw => ?_, ?_⟩
                            · go_simp
                              with_reducible rfl
                            (try simp only [act_put, act_put_none, List.set_cons_zero, List.set_cons_succ])
                            refine held_take (i := 40) (by simp only [List.getElem?_toArray, List.getElem?_cons_succ, List.getElem?_cons_zero]; rfl) (by decide +kernel) (by decide +kernel) (by decide +kernel) (by exact fun _ _ _ _ h => h) hS (by rfl) ?_
                            apply Exists.intro
                            refine ⟨fun w' hSw => ?_, ?_⟩
                            · go_simp
                              with_reducible rfl
                            (try simp only [act_put, act_put_none, List.set_cons_zero, List.set_cons_succ])
                            refine wpAnyH_ready (rs := [41]) (by decide +kernel) (by simp) ?_
                            refine AllReadyH.cons (i := 41) (by simp only [List.getElem?_toArray, List.getElem?_cons_succ, List.getElem?_cons_zero]; rfl) (fun K hK => ?_) ?_
                            · go_simp
                              go_at_call 10
                              refine (awake11 _).mono ?_
                              rintro e v3 ⟨rfl, hb⟩
                              have HX := Lib.hid hb
                              clear hb
                              go_simp
                              refine hK.out _ _ ⟨hS.1.below HX.out, hS.2.1.below HX.out, Lib.hid (bthen hS.2.2.out HX.out)⟩ (fun hS2 => ?_)
                              clear hS hK K
                              have hS := hS2
                              clear hS2
                              clear HX
                              (try simp only [act_put, act_put_none, List.set_cons_zero, List.set_cons_succ])
                              refine held_take (i := 42) (by simp only [List.getElem?_toArray, List.getElem?_cons_succ, List.getElem?_cons_zero]; rfl) (by decide +kernel) (by decide +kernel) (by decide +kernel) (by exact fun _ _ _ _ h => h) hS (by rfl) ?_
                              apply Exists.intro
                              refine ⟨fun w' hSw => ?_, ?_⟩
                              · go_simp
                                with_reducible rfl
                              (try simp only [act_put, act_put_none, List.set_cons_zero, List.set_cons_succ])
                              refine held_take (i := 43) (by simp only [List.getElem?_toArray, List.getElem?_cons_succ, List.getElem?_cons_zero]; rfl) (by decide +kernel) (by decide +kernel) (by decide +kernel) (by exact fun _ _ _ _ h => h) hS (by rfl) ?_
                              apply Exists.intro
                              refine ⟨fun w' hSw => ?_, ?_⟩
                              · go_simp
                                with_reducible rfl
                              (try simp only [act_put, act_put_none, List.set_cons_zero, List.set_cons_succ])
                              refine wpAnyH_done (by decide +kernel) ?_ _
                              have HS := Lib.hid hS.2.2.out
                              clear hS
                              go_wp2_with fail
                              go_ret
                              exact ⟨rfl, HS.out⟩
                            exact AllReadyH.nil
                          exact AllReadyH.nil
                        exact AllReadyH.nil
                      exact AllReadyH.nil
                    exact AllReadyH.nil
                  exact AllReadyH.nil
                exact AllReadyH.nil
              exact AllReadyH.nil
            exact AllReadyH.nil
  · have hL' : ¬ (l.length : Int) ≤ 400 := by omega
    go_wp2_with fail
    refine (awake11 _).mono ?_
    rintro e w9 ⟨rfl, hb9⟩
    have HB9 := Lib.hid hb9
    clear hb9
    go_wp2_with fail
    go_ret
    exact ⟨rfl, HB9.out⟩
end Go.Proofs.Ytfnbcafilbafgaa
