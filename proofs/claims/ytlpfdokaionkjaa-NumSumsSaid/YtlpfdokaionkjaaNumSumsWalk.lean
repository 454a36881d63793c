/-
  The walk of NumSums.
-/
import Derived.Test.YtlpfdokaionkjaaAwake1
namespace Go.Proofs.Ytlpfdokaionkjaa
open Go.RowKit
set_option maxRecDepth 100000 in
set_option maxHeartbeats 2000000 in
theorem numSums_walk (A : Option Addr) (c : Nat) (l : List Int) (hm : l.length ≤ 9223372036854775807 ∧ (A = none → c = 0 ∧ l = [])) (_hb : ∀ n ∈ l, -9223372036854775808 ≤ n ∧ n ≤ 9223372036854775807) (w : World) (hl : IsInts w A l) :
    Calls Try.prog 7 #[.slice A l.length c] w fun e w' => e = .returned (.bool true) ∧ Below w.heap.size w w' := by
  by_cases hlen : 100 < l.length
  · have hi : (100 : Int) < (l.length : Int) := by omega
    have hm1 := hm.1
    have HM := Lib.hid hm
    clear hl hm _hb
    go_enter Try.func7, Try.ntmps7
    go_wp2_with fail
    refine (awake1 _).mono ?_
    rintro e w1 ⟨rfl, hb1⟩
    have HB1 := Lib.hid hb1
    clear hb1
    go_wp2_with fail
    go_ret
    exact ⟨rfl, HB1.out⟩
  · have hi : (l.length : Int) ≤ 100 := by omega
    have HA := Lib.hid (fun h => (hm.2 h).1)
    have Hl := Lib.hid hl
    have hlen' : l.length ≤ 100 := by omega
    clear hl hm _hb hlen
    go_enter Try.func7, Try.ntmps7
    go_wp2_with (at_builtin; refine wl_append_ints rfl _ _ rfl w.heap.size _ [] l A c rfl ?c1 rfl ?c2 HA.out ?c3 ?c4 ?_)
    case c1 => exact OwnI.row (rowAt_alloc_at _ _ _ _ rfl) (by simp)
    case c2 => exact Hl.out.below ((Below.refl _ _).alloc (Nat.le_refl _) _)
    case c3 => simp; omega
    case c4 => simp
    intro v' w1 hown hgr
    obtain ⟨a', cap', rfl, hl', hA'⟩ := hown.isInts
    have HB0 := Lib.hid (show Below w.heap.size w w1 from ((Below.refl _ _).alloc (Nat.le_refl _) _).trans ⟨hgr.os, hgr.tape, hgr.output, hgr.size, fun k hk => hgr.block k (by simp; omega) (by simp [Value.ownBlock]; omega)⟩)
    have Hl' := Lib.hid hl'
    clear hl' hA' hown hgr
    go_wp2_with fail
    refine (sum_any a' cap' l _ Hl'.out (by omega)).mono ?_
    rintro e w2 ⟨rfl, hb2⟩
    have HB2 := Lib.hid hb2
    clear hb2
    go_wp2_with fail
    refine (rsum_any A c l _ ((Hl.out.below HB0.out).below HB2.out) (by omega)).mono ?_
    rintro e _ ⟨rfl, rfl⟩
    go_wp2_with fail
    refine (awake1 _).mono ?_
    rintro e w3 ⟨rfl, hb3⟩
    have HB3 := Lib.hid hb3
    clear hb3
    go_wp2_with fail
    go_ret
    exact ⟨rfl, bthen (bthen HB0.out HB2.out) HB3.out⟩
end Go.Proofs.Ytlpfdokaionkjaa
