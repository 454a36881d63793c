/-
  No cell of these rows narrows 'for every input' (looked for: loops, veiled, ifaces, maps, wideKeys, modest, calm, conditions, laid).
  DERIVED. THE GIVEN ROWS OF THIS SEAT. 5 by the template 'for every input the law returns true; each argument reads behind the call as it read before'; 0 by the template 'total and deterministic' (their statements: YtaflbcckoiiddaaTotals.lean).
  GIVEN WITH THE SEED: the statements are not yours to turn. If you find one false, say at which input.
  Laid BY PROGRAM, IN A SANDBOX (cutbox-rows.mjs): the forced cells as the released guide's own fill.sh prints them over the translation da98aad30b95b416… (all of the seat's roots in one cut). By AI agents, Wed Nov 11 2026. No macro, syntax, notation, axiom, sorry.
-/
import Derived.Test.YtaflbcckoiiddaaChecked
import GoSem.Claim
import GoSem.ClaimJoined
import GoSem.ClaimMapViews
import Derived.JoinedTies
import Derived.KernelRfl
namespace Go.Proofs.Ytaflbcckoiiddaa
/- THE CELL 'sum', in the pinned program and in every row, IS THE sha256 OF THE DUMP (.gsa) THAT YtaflbcckoiiddaaProg.lean LOADS. Nothing in Lean hashes anything: it is a label: what it is worth is what the hold of that sum in a sandbox is worth. -/
noncomputable def Try.pinned : Pinned := { name := "ytaflbcckoiiddaa", sum := "da98aad30b95b416fb19b75172db78d5be4a576fd7d1ce24c80da93a7c69044d", checked := Try.checked }
namespace Rows
def none {H : Type} : Left H := { results := [], args := [] }

/-- 'usufructlaw08.OctetsOne': WHATEVER THE INPUT: true; the input reads as it did. -/
def octetsOneSpec : ChangeSpec := { name := "octetsOne", fn := fun _ => fun
  | [d] => { results := [.lit (.bool true)], args := [d] }
  | _ => none }
def octetsOneRow : OpenClaim := { program := "ytaflbcckoiiddaa", sum := "da98aad30b95b416fb19b75172db78d5be4a576fd7d1ce24c80da93a7c69044d", func := "usufruct/usufructlaw08.OctetsOne", spec := "octetsOne", unfollowed := true, recurses := true, apart := false }
def OctetsOneSaid : Prop := octetsOneRow.holds Try.pinned (OpenSpec.ofChange octetsOneSpec)

/-- ITS FALSE NEIGHBOUR: 'it returns false'. Refute it at one input. -/
def octetsOneWrong : ChangeSpec := { name := "octetsOne", fn := fun _ => fun
  | [d] => { results := [.lit (.bool false)], args := [d] }
  | _ => none }
def OctetsOneWrongFalsely : Prop := octetsOneRow.holds Try.pinned (OpenSpec.ofChange octetsOneWrong)

/-- 'usufructlaw08.OctetsRow': WHATEVER THE INPUT: true; the input reads as it did. -/
def octetsRowSpec : ChangeSpec := { name := "octetsRow", fn := fun _ => fun
  | [d1, d2] => { results := [.lit (.bool true)], args := [d1, d2] }
  | _ => none }
def octetsRowRow : OpenClaim := { program := "ytaflbcckoiiddaa", sum := "da98aad30b95b416fb19b75172db78d5be4a576fd7d1ce24c80da93a7c69044d", func := "usufruct/usufructlaw08.OctetsRow", spec := "octetsRow", unfollowed := true, recurses := true, apart := false }
def OctetsRowSaid : Prop := octetsRowRow.holds Try.pinned (OpenSpec.ofChange octetsRowSpec)

/-- ITS FALSE NEIGHBOUR: 'it returns false'. Refute it at one input. -/
def octetsRowWrong : ChangeSpec := { name := "octetsRow", fn := fun _ => fun
  | [d1, d2] => { results := [.lit (.bool false)], args := [d1, d2] }
  | _ => none }
def OctetsRowWrongFalsely : Prop := octetsRowRow.holds Try.pinned (OpenSpec.ofChange octetsRowWrong)

/-- 'usufructlaw08.OctetsLess': WHATEVER THE INPUT: true; the input reads as it did. -/
def octetsLessSpec : ChangeSpec := { name := "octetsLess", fn := fun _ => fun
  | [d1, d2] => { results := [.lit (.bool true)], args := [d1, d2] }
  | _ => none }
def octetsLessRow : OpenClaim := { program := "ytaflbcckoiiddaa", sum := "da98aad30b95b416fb19b75172db78d5be4a576fd7d1ce24c80da93a7c69044d", func := "usufruct/usufructlaw08.OctetsLess", spec := "octetsLess", unfollowed := true, recurses := true, apart := false }
def OctetsLessSaid : Prop := octetsLessRow.holds Try.pinned (OpenSpec.ofChange octetsLessSpec)

/-- ITS FALSE NEIGHBOUR: 'it returns false'. Refute it at one input. -/
def octetsLessWrong : ChangeSpec := { name := "octetsLess", fn := fun _ => fun
  | [d1, d2] => { results := [.lit (.bool false)], args := [d1, d2] }
  | _ => none }
def OctetsLessWrongFalsely : Prop := octetsLessRow.holds Try.pinned (OpenSpec.ofChange octetsLessWrong)

/-- 'usufructlaw08.OctetsPut': WHATEVER THE INPUT: true; the input reads as it did. -/
def octetsPutSpec : ChangeSpec := { name := "octetsPut", fn := fun _ => fun
  | [d1, d2, d3] => { results := [.lit (.bool true)], args := [d1, d2, d3] }
  | _ => none }
def octetsPutRow : OpenClaim := { program := "ytaflbcckoiiddaa", sum := "da98aad30b95b416fb19b75172db78d5be4a576fd7d1ce24c80da93a7c69044d", func := "usufruct/usufructlaw08.OctetsPut", spec := "octetsPut", unfollowed := true, recurses := true, apart := false }
def OctetsPutSaid : Prop := octetsPutRow.holds Try.pinned (OpenSpec.ofChange octetsPutSpec)

/-- ITS FALSE NEIGHBOUR: 'it returns false'. Refute it at one input. -/
def octetsPutWrong : ChangeSpec := { name := "octetsPut", fn := fun _ => fun
  | [d1, d2, d3] => { results := [.lit (.bool false)], args := [d1, d2, d3] }
  | _ => none }
def OctetsPutWrongFalsely : Prop := octetsPutRow.holds Try.pinned (OpenSpec.ofChange octetsPutWrong)

/-- 'usufructlaw08.OctetsBack': WHATEVER THE INPUT: true; the input reads as it did. -/
def octetsBackSpec : ChangeSpec := { name := "octetsBack", fn := fun _ => fun
  | [d1, d2] => { results := [.lit (.bool true)], args := [d1, d2] }
  | _ => none }
def octetsBackRow : OpenClaim := { program := "ytaflbcckoiiddaa", sum := "da98aad30b95b416fb19b75172db78d5be4a576fd7d1ce24c80da93a7c69044d", func := "usufruct/usufructlaw08.OctetsBack", spec := "octetsBack", unfollowed := true, recurses := true, apart := false }
def OctetsBackSaid : Prop := octetsBackRow.holds Try.pinned (OpenSpec.ofChange octetsBackSpec)

/-- ITS FALSE NEIGHBOUR: 'it returns false'. Refute it at one input. -/
def octetsBackWrong : ChangeSpec := { name := "octetsBack", fn := fun _ => fun
  | [d1, d2] => { results := [.lit (.bool false)], args := [d1, d2] }
  | _ => none }
def OctetsBackWrongFalsely : Prop := octetsBackRow.holds Try.pinned (OpenSpec.ofChange octetsBackWrong)

/- THE SECOND FORM. 'bulk': how many values and letters a reading holds, each counted each time it is reached (what is shared counts as often as it is met; a slice's spare places count too). A statement '..UptoSaid' is the law's where the arguments, and the package variables that the reading takes, are together of bulk at most 1048576: NARROWER than '..Said'. Prove '..Said' where nothing that the law and all that it calls make is longer than what came in: it says more and counts as full. Else prove '..UptoSaid'. A law counts once. -/
mutual
def uptoBulk {H : Type} : DataW H → Nat
  | .lit (.string bytes) => bytes.length + 1
  | .lit _ => 1
  | .nil => 1
  | .ptr d => uptoBulk d + 1
  | .slice elems spare => uptoBulkAll elems + uptoBulkAll spare + 1
  | .agg parts => uptoBulkAll parts + 1
  | .iface _ d => uptoBulk d + 1
  | .map entries => uptoBulkEntries entries + 1
  | .held _ => 1
def uptoBulkAll {H : Type} : List (DataW H) → Nat
  | [] => 0
  | d :: r => uptoBulk d + uptoBulkAll r
def uptoBulkEntries {H : Type} : List (Lit × DataW H) → Nat
  | [] => 0
  | x :: r => uptoBulkEntry x + uptoBulkEntries r
def uptoBulkEntry {H : Type} : Lit × DataW H → Nat
  | (.string bytes, d) => bytes.length + uptoBulk d + 1
  | (_, d) => uptoBulk d + 1
 end
def uptoSmall : (H : Type) → List (DataW H) → Bool := fun _ ds => decide (uptoBulkAll ds ≤ 1048576)
def OpenSpec.upto (s : _root_.Go.ChangeSpec) : _root_.Go.OpenSpec := { _root_.Go.OpenSpec.ofChange s with cond := some uptoSmall }

/-- 'usufructlaw08.OctetsOne', WHERE WHAT IT READS IS OF BULK AT MOST 1048576: true; the input reads as it did. -/
def octetsOneUptoRow : OpenClaim := { program := "ytaflbcckoiiddaa", sum := "da98aad30b95b416fb19b75172db78d5be4a576fd7d1ce24c80da93a7c69044d", func := "usufruct/usufructlaw08.OctetsOne", spec := "octetsOne", unfollowed := true, recurses := true, apart := false, narrowed := true }
def OctetsOneUptoSaid : Prop := octetsOneUptoRow.holds Try.pinned (OpenSpec.upto octetsOneSpec)

/-- 'usufructlaw08.OctetsRow', WHERE WHAT IT READS IS OF BULK AT MOST 1048576: true; the input reads as it did. -/
def octetsRowUptoRow : OpenClaim := { program := "ytaflbcckoiiddaa", sum := "da98aad30b95b416fb19b75172db78d5be4a576fd7d1ce24c80da93a7c69044d", func := "usufruct/usufructlaw08.OctetsRow", spec := "octetsRow", unfollowed := true, recurses := true, apart := false, narrowed := true }
def OctetsRowUptoSaid : Prop := octetsRowUptoRow.holds Try.pinned (OpenSpec.upto octetsRowSpec)

/-- 'usufructlaw08.OctetsLess', WHERE WHAT IT READS IS OF BULK AT MOST 1048576: true; the input reads as it did. -/
def octetsLessUptoRow : OpenClaim := { program := "ytaflbcckoiiddaa", sum := "da98aad30b95b416fb19b75172db78d5be4a576fd7d1ce24c80da93a7c69044d", func := "usufruct/usufructlaw08.OctetsLess", spec := "octetsLess", unfollowed := true, recurses := true, apart := false, narrowed := true }
def OctetsLessUptoSaid : Prop := octetsLessUptoRow.holds Try.pinned (OpenSpec.upto octetsLessSpec)

/-- 'usufructlaw08.OctetsPut', WHERE WHAT IT READS IS OF BULK AT MOST 1048576: true; the input reads as it did. -/
def octetsPutUptoRow : OpenClaim := { program := "ytaflbcckoiiddaa", sum := "da98aad30b95b416fb19b75172db78d5be4a576fd7d1ce24c80da93a7c69044d", func := "usufruct/usufructlaw08.OctetsPut", spec := "octetsPut", unfollowed := true, recurses := true, apart := false, narrowed := true }
def OctetsPutUptoSaid : Prop := octetsPutUptoRow.holds Try.pinned (OpenSpec.upto octetsPutSpec)

/-- 'usufructlaw08.OctetsBack', WHERE WHAT IT READS IS OF BULK AT MOST 1048576: true; the input reads as it did. -/
def octetsBackUptoRow : OpenClaim := { program := "ytaflbcckoiiddaa", sum := "da98aad30b95b416fb19b75172db78d5be4a576fd7d1ce24c80da93a7c69044d", func := "usufruct/usufructlaw08.OctetsBack", spec := "octetsBack", unfollowed := true, recurses := true, apart := false, narrowed := true }
def OctetsBackUptoSaid : Prop := octetsBackUptoRow.holds Try.pinned (OpenSpec.upto octetsBackSpec)

end Rows
end Go.Proofs.Ytaflbcckoiiddaa
