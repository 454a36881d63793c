/-
  No cell of these rows narrows 'for every input' (looked for: loops, veiled, ifaces, maps, wideKeys, modest, calm, conditions, laid).
  DERIVED. THE GIVEN ROWS OF THIS SEAT. 8 by the template 'for every input the law returns true; each argument reads behind the call as it read before'; 0 by the template 'total and deterministic' (their statements: YtpicfjlcepfneaaTotals.lean).
  GIVEN WITH THE SEED: the statements are not yours to turn. If you find one false, say at which input.
  Laid BY PROGRAM, IN A SANDBOX (cutbox-rows.mjs): the forced cells as the released guide's own fill.sh prints them over the translation b203c139fe1e2b6b… (all of the seat's roots in one cut). By AI agents, Wed Nov 11 2026. No macro, syntax, notation, axiom, sorry.
-/
import Derived.Test.YtpicfjlcepfneaaChecked
import GoSem.Claim
import GoSem.ClaimJoined
import GoSem.ClaimMapViews
import Derived.JoinedTies
import Derived.KernelRfl
namespace Go.Proofs.Ytpicfjlcepfneaa
/- THE CELL 'sum', in the pinned program and in every row, IS THE sha256 OF THE DUMP (.gsa) THAT YtpicfjlcepfneaaProg.lean LOADS. Nothing in Lean hashes anything: it is a label: what it is worth is what the hold of that sum in a sandbox is worth. -/
noncomputable def Try.pinned : Pinned := { name := "ytpicfjlcepfneaa", sum := "b203c139fe1e2b6b049c4182959e14198c72998529e576c9506b7322cebbf1a1", checked := Try.checked }
namespace Rows
def none {H : Type} : Left H := { results := [], args := [] }

/-- 'usufructlaw03.RightsDo': WHATEVER THE INPUT: true; the input reads as it did. -/
def rightsDoSpec : ChangeSpec := { name := "rightsDo", fn := fun _ => fun
  | [d1, d2, d3, d4] => { results := [.lit (.bool true)], args := [d1, d2, d3, d4] }
  | _ => none }
def rightsDoRow : OpenClaim := { program := "ytpicfjlcepfneaa", sum := "b203c139fe1e2b6b049c4182959e14198c72998529e576c9506b7322cebbf1a1", func := "usufruct/usufructlaw03.RightsDo", spec := "rightsDo", unfollowed := true, recurses := true, apart := false }
def RightsDoSaid : Prop := rightsDoRow.holds Try.pinned (OpenSpec.ofChange rightsDoSpec)

/-- ITS FALSE NEIGHBOUR: 'it returns false'. Refute it at one input. -/
def rightsDoWrong : ChangeSpec := { name := "rightsDo", fn := fun _ => fun
  | [d1, d2, d3, d4] => { results := [.lit (.bool false)], args := [d1, d2, d3, d4] }
  | _ => none }
def RightsDoWrongFalsely : Prop := rightsDoRow.holds Try.pinned (OpenSpec.ofChange rightsDoWrong)

/-- 'usufructlaw03.RightsTell': WHATEVER THE INPUT: true; the input reads as it did. -/
def rightsTellSpec : ChangeSpec := { name := "rightsTell", fn := fun _ => fun
  | [d1, d2] => { results := [.lit (.bool true)], args := [d1, d2] }
  | _ => none }
def rightsTellRow : OpenClaim := { program := "ytpicfjlcepfneaa", sum := "b203c139fe1e2b6b049c4182959e14198c72998529e576c9506b7322cebbf1a1", func := "usufruct/usufructlaw03.RightsTell", spec := "rightsTell", unfollowed := true, recurses := true, apart := false }
def RightsTellSaid : Prop := rightsTellRow.holds Try.pinned (OpenSpec.ofChange rightsTellSpec)

/-- ITS FALSE NEIGHBOUR: 'it returns false'. Refute it at one input. -/
def rightsTellWrong : ChangeSpec := { name := "rightsTell", fn := fun _ => fun
  | [d1, d2] => { results := [.lit (.bool false)], args := [d1, d2] }
  | _ => none }
def RightsTellWrongFalsely : Prop := rightsTellRow.holds Try.pinned (OpenSpec.ofChange rightsTellWrong)

/-- 'usufructlaw03.RightsNever': WHATEVER THE INPUT: true; the input reads as it did. -/
def rightsNeverSpec : ChangeSpec := { name := "rightsNever", fn := fun _ => fun
  | [d] => { results := [.lit (.bool true)], args := [d] }
  | _ => none }
def rightsNeverRow : OpenClaim := { program := "ytpicfjlcepfneaa", sum := "b203c139fe1e2b6b049c4182959e14198c72998529e576c9506b7322cebbf1a1", func := "usufruct/usufructlaw03.RightsNever", spec := "rightsNever", unfollowed := true, recurses := true, apart := false }
def RightsNeverSaid : Prop := rightsNeverRow.holds Try.pinned (OpenSpec.ofChange rightsNeverSpec)

/-- ITS FALSE NEIGHBOUR: 'it returns false'. Refute it at one input. -/
def rightsNeverWrong : ChangeSpec := { name := "rightsNever", fn := fun _ => fun
  | [d] => { results := [.lit (.bool false)], args := [d] }
  | _ => none }
def RightsNeverWrongFalsely : Prop := rightsNeverRow.holds Try.pinned (OpenSpec.ofChange rightsNeverWrong)

/-- 'usufructlaw03.RightsSum': WHATEVER THE INPUT: true; the input reads as it did. -/
def rightsSumSpec : ChangeSpec := { name := "rightsSum", fn := fun _ => fun
  | [d] => { results := [.lit (.bool true)], args := [d] }
  | _ => none }
def rightsSumRow : OpenClaim := { program := "ytpicfjlcepfneaa", sum := "b203c139fe1e2b6b049c4182959e14198c72998529e576c9506b7322cebbf1a1", func := "usufruct/usufructlaw03.RightsSum", spec := "rightsSum", unfollowed := true, recurses := true, apart := false }
def RightsSumSaid : Prop := rightsSumRow.holds Try.pinned (OpenSpec.ofChange rightsSumSpec)

/-- ITS FALSE NEIGHBOUR: 'it returns false'. Refute it at one input. -/
def rightsSumWrong : ChangeSpec := { name := "rightsSum", fn := fun _ => fun
  | [d] => { results := [.lit (.bool false)], args := [d] }
  | _ => none }
def RightsSumWrongFalsely : Prop := rightsSumRow.holds Try.pinned (OpenSpec.ofChange rightsSumWrong)

/-- 'usufructlaw03.RightsMove': WHATEVER THE INPUT: true; the input reads as it did. -/
def rightsMoveSpec : ChangeSpec := { name := "rightsMove", fn := fun _ => fun
  | [d1, d2, d3, d4] => { results := [.lit (.bool true)], args := [d1, d2, d3, d4] }
  | _ => none }
def rightsMoveRow : OpenClaim := { program := "ytpicfjlcepfneaa", sum := "b203c139fe1e2b6b049c4182959e14198c72998529e576c9506b7322cebbf1a1", func := "usufruct/usufructlaw03.RightsMove", spec := "rightsMove", unfollowed := true, recurses := true, apart := false }
def RightsMoveSaid : Prop := rightsMoveRow.holds Try.pinned (OpenSpec.ofChange rightsMoveSpec)

/-- ITS FALSE NEIGHBOUR: 'it returns false'. Refute it at one input. -/
def rightsMoveWrong : ChangeSpec := { name := "rightsMove", fn := fun _ => fun
  | [d1, d2, d3, d4] => { results := [.lit (.bool false)], args := [d1, d2, d3, d4] }
  | _ => none }
def RightsMoveWrongFalsely : Prop := rightsMoveRow.holds Try.pinned (OpenSpec.ofChange rightsMoveWrong)

/-- 'usufructlaw03.RightsUse': WHATEVER THE INPUT: true; the input reads as it did. -/
def rightsUseSpec : ChangeSpec := { name := "rightsUse", fn := fun _ => fun
  | [d1, d2, d3] => { results := [.lit (.bool true)], args := [d1, d2, d3] }
  | _ => none }
def rightsUseRow : OpenClaim := { program := "ytpicfjlcepfneaa", sum := "b203c139fe1e2b6b049c4182959e14198c72998529e576c9506b7322cebbf1a1", func := "usufruct/usufructlaw03.RightsUse", spec := "rightsUse", unfollowed := true, recurses := true, apart := false }
def RightsUseSaid : Prop := rightsUseRow.holds Try.pinned (OpenSpec.ofChange rightsUseSpec)

/-- ITS FALSE NEIGHBOUR: 'it returns false'. Refute it at one input. -/
def rightsUseWrong : ChangeSpec := { name := "rightsUse", fn := fun _ => fun
  | [d1, d2, d3] => { results := [.lit (.bool false)], args := [d1, d2, d3] }
  | _ => none }
def RightsUseWrongFalsely : Prop := rightsUseRow.holds Try.pinned (OpenSpec.ofChange rightsUseWrong)

/-- 'usufructlaw03.RightsJoin': WHATEVER THE INPUT: true; the input reads as it did. -/
def rightsJoinSpec : ChangeSpec := { name := "rightsJoin", fn := fun _ => fun
  | [d1, d2, d3] => { results := [.lit (.bool true)], args := [d1, d2, d3] }
  | _ => none }
def rightsJoinRow : OpenClaim := { program := "ytpicfjlcepfneaa", sum := "b203c139fe1e2b6b049c4182959e14198c72998529e576c9506b7322cebbf1a1", func := "usufruct/usufructlaw03.RightsJoin", spec := "rightsJoin", unfollowed := true, recurses := true, apart := false }
def RightsJoinSaid : Prop := rightsJoinRow.holds Try.pinned (OpenSpec.ofChange rightsJoinSpec)

/-- ITS FALSE NEIGHBOUR: 'it returns false'. Refute it at one input. -/
def rightsJoinWrong : ChangeSpec := { name := "rightsJoin", fn := fun _ => fun
  | [d1, d2, d3] => { results := [.lit (.bool false)], args := [d1, d2, d3] }
  | _ => none }
def RightsJoinWrongFalsely : Prop := rightsJoinRow.holds Try.pinned (OpenSpec.ofChange rightsJoinWrong)

/-- 'usufructlaw03.RightsHeard': WHATEVER THE INPUT: true; the input reads as it did. -/
def rightsHeardSpec : ChangeSpec := { name := "rightsHeard", fn := fun _ => fun
  | [d1, d2, d3] => { results := [.lit (.bool true)], args := [d1, d2, d3] }
  | _ => none }
def rightsHeardRow : OpenClaim := { program := "ytpicfjlcepfneaa", sum := "b203c139fe1e2b6b049c4182959e14198c72998529e576c9506b7322cebbf1a1", func := "usufruct/usufructlaw03.RightsHeard", spec := "rightsHeard", unfollowed := true, recurses := true, apart := false }
def RightsHeardSaid : Prop := rightsHeardRow.holds Try.pinned (OpenSpec.ofChange rightsHeardSpec)

/-- ITS FALSE NEIGHBOUR: 'it returns false'. Refute it at one input. -/
def rightsHeardWrong : ChangeSpec := { name := "rightsHeard", fn := fun _ => fun
  | [d1, d2, d3] => { results := [.lit (.bool false)], args := [d1, d2, d3] }
  | _ => none }
def RightsHeardWrongFalsely : Prop := rightsHeardRow.holds Try.pinned (OpenSpec.ofChange rightsHeardWrong)

/- THE SECOND FORM. 'bulk': how many values and letters a reading holds, each counted each time it is reached (what is shared counts as often as it is met; a slice's spare places count too). A statement '..UptoSaid' is the law's where the arguments, and the package variables that the reading takes, are together of bulk at most 1048576: NARROWER than '..Said'. Prove '..Said' where nothing that the law and all that it calls make is longer than what came in: it says more and counts as full. Else prove '..UptoSaid'. A law counts once. -/
mutual
def uptoBulk {H : Type} : DataW H → Nat
  | .lit (.string bytes) => bytes.length + 1
  | .lit _ => 1
  | .nil => 1
  | .ptr d => uptoBulk d + 1
  | .slice elems spare => uptoBulkAll elems + uptoBulkAll spare + 1
  | .agg parts => uptoBulkAll parts + 1
  | .iface _ d => uptoBulk d + 1
  | .map entries => uptoBulkEntries entries + 1
  | .held _ => 1
def uptoBulkAll {H : Type} : List (DataW H) → Nat
  | [] => 0
  | d :: r => uptoBulk d + uptoBulkAll r
def uptoBulkEntries {H : Type} : List (Lit × DataW H) → Nat
  | [] => 0
  | x :: r => uptoBulkEntry x + uptoBulkEntries r
def uptoBulkEntry {H : Type} : Lit × DataW H → Nat
  | (.string bytes, d) => bytes.length + uptoBulk d + 1
  | (_, d) => uptoBulk d + 1
 end
def uptoSmall : (H : Type) → List (DataW H) → Bool := fun _ ds => decide (uptoBulkAll ds ≤ 1048576)
def OpenSpec.upto (s : _root_.Go.ChangeSpec) : _root_.Go.OpenSpec := { _root_.Go.OpenSpec.ofChange s with cond := some uptoSmall }

/-- 'usufructlaw03.RightsDo', WHERE WHAT IT READS IS OF BULK AT MOST 1048576: true; the input reads as it did. -/
def rightsDoUptoRow : OpenClaim := { program := "ytpicfjlcepfneaa", sum := "b203c139fe1e2b6b049c4182959e14198c72998529e576c9506b7322cebbf1a1", func := "usufruct/usufructlaw03.RightsDo", spec := "rightsDo", unfollowed := true, recurses := true, apart := false, narrowed := true }
def RightsDoUptoSaid : Prop := rightsDoUptoRow.holds Try.pinned (OpenSpec.upto rightsDoSpec)

/-- 'usufructlaw03.RightsTell', WHERE WHAT IT READS IS OF BULK AT MOST 1048576: true; the input reads as it did. -/
def rightsTellUptoRow : OpenClaim := { program := "ytpicfjlcepfneaa", sum := "b203c139fe1e2b6b049c4182959e14198c72998529e576c9506b7322cebbf1a1", func := "usufruct/usufructlaw03.RightsTell", spec := "rightsTell", unfollowed := true, recurses := true, apart := false, narrowed := true }
def RightsTellUptoSaid : Prop := rightsTellUptoRow.holds Try.pinned (OpenSpec.upto rightsTellSpec)

/-- 'usufructlaw03.RightsNever', WHERE WHAT IT READS IS OF BULK AT MOST 1048576: true; the input reads as it did. -/
def rightsNeverUptoRow : OpenClaim := { program := "ytpicfjlcepfneaa", sum := "b203c139fe1e2b6b049c4182959e14198c72998529e576c9506b7322cebbf1a1", func := "usufruct/usufructlaw03.RightsNever", spec := "rightsNever", unfollowed := true, recurses := true, apart := false, narrowed := true }
def RightsNeverUptoSaid : Prop := rightsNeverUptoRow.holds Try.pinned (OpenSpec.upto rightsNeverSpec)

/-- 'usufructlaw03.RightsSum', WHERE WHAT IT READS IS OF BULK AT MOST 1048576: true; the input reads as it did. -/
def rightsSumUptoRow : OpenClaim := { program := "ytpicfjlcepfneaa", sum := "b203c139fe1e2b6b049c4182959e14198c72998529e576c9506b7322cebbf1a1", func := "usufruct/usufructlaw03.RightsSum", spec := "rightsSum", unfollowed := true, recurses := true, apart := false, narrowed := true }
def RightsSumUptoSaid : Prop := rightsSumUptoRow.holds Try.pinned (OpenSpec.upto rightsSumSpec)

/-- 'usufructlaw03.RightsMove', WHERE WHAT IT READS IS OF BULK AT MOST 1048576: true; the input reads as it did. -/
def rightsMoveUptoRow : OpenClaim := { program := "ytpicfjlcepfneaa", sum := "b203c139fe1e2b6b049c4182959e14198c72998529e576c9506b7322cebbf1a1", func := "usufruct/usufructlaw03.RightsMove", spec := "rightsMove", unfollowed := true, recurses := true, apart := false, narrowed := true }
def RightsMoveUptoSaid : Prop := rightsMoveUptoRow.holds Try.pinned (OpenSpec.upto rightsMoveSpec)

/-- 'usufructlaw03.RightsUse', WHERE WHAT IT READS IS OF BULK AT MOST 1048576: true; the input reads as it did. -/
def rightsUseUptoRow : OpenClaim := { program := "ytpicfjlcepfneaa", sum := "b203c139fe1e2b6b049c4182959e14198c72998529e576c9506b7322cebbf1a1", func := "usufruct/usufructlaw03.RightsUse", spec := "rightsUse", unfollowed := true, recurses := true, apart := false, narrowed := true }
def RightsUseUptoSaid : Prop := rightsUseUptoRow.holds Try.pinned (OpenSpec.upto rightsUseSpec)

/-- 'usufructlaw03.RightsJoin', WHERE WHAT IT READS IS OF BULK AT MOST 1048576: true; the input reads as it did. -/
def rightsJoinUptoRow : OpenClaim := { program := "ytpicfjlcepfneaa", sum := "b203c139fe1e2b6b049c4182959e14198c72998529e576c9506b7322cebbf1a1", func := "usufruct/usufructlaw03.RightsJoin", spec := "rightsJoin", unfollowed := true, recurses := true, apart := false, narrowed := true }
def RightsJoinUptoSaid : Prop := rightsJoinUptoRow.holds Try.pinned (OpenSpec.upto rightsJoinSpec)

/-- 'usufructlaw03.RightsHeard', WHERE WHAT IT READS IS OF BULK AT MOST 1048576: true; the input reads as it did. -/
def rightsHeardUptoRow : OpenClaim := { program := "ytpicfjlcepfneaa", sum := "b203c139fe1e2b6b049c4182959e14198c72998529e576c9506b7322cebbf1a1", func := "usufruct/usufructlaw03.RightsHeard", spec := "rightsHeard", unfollowed := true, recurses := true, apart := false, narrowed := true }
def RightsHeardUptoSaid : Prop := rightsHeardUptoRow.holds Try.pinned (OpenSpec.upto rightsHeardSpec)

end Rows
end Go.Proofs.Ytpicfjlcepfneaa
