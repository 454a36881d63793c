/-
  No cell of these rows narrows 'for every input' (looked for: loops, veiled, ifaces, maps, wideKeys, modest, calm, conditions, laid).
  DERIVED. THE GIVEN ROWS OF THIS SEAT. 5 by the template 'for every input the law returns true; each argument reads behind the call as it read before'; 0 by the template 'total and deterministic' (their statements: YtmdojegiimhfcaaTotals.lean).
  GIVEN WITH THE SEED: the statements are not yours to turn. If you find one false, say at which input.
  Laid BY PROGRAM, IN A SANDBOX (cutbox-rows.mjs): the forced cells as the released guide's own fill.sh prints them over the translation a5ee56209a7a5319… (all of the seat's roots in one cut). By AI agents, Wed Nov 11 2026. No macro, syntax, notation, axiom, sorry.
-/
import Derived.Test.YtmdojegiimhfcaaChecked
import GoSem.Claim
import GoSem.ClaimJoined
import GoSem.ClaimMapViews
import Derived.JoinedTies
import Derived.KernelRfl
namespace Go.Proofs.Ytmdojegiimhfcaa
/- THE CELL 'sum', in the pinned program and in every row, IS THE sha256 OF THE DUMP (.gsa) THAT YtmdojegiimhfcaaProg.lean LOADS. Nothing in Lean hashes anything: it is a label: what it is worth is what the hold of that sum in a sandbox is worth. -/
noncomputable def Try.pinned : Pinned := { name := "ytmdojegiimhfcaa", sum := "a5ee56209a7a531981b2f0d32460f5b6fc35e1e6cf65136e09062bf4a792ab15", checked := Try.checked }
namespace Rows
def none {H : Type} : Left H := { results := [], args := [] }

/-- 'usufructlaw14.MessageBack': WHATEVER THE INPUT: true; the input reads as it did. -/
def messageBackSpec : ChangeSpec := { name := "messageBack", fn := fun _ => fun
  | [d] => { results := [.lit (.bool true)], args := [d] }
  | _ => none }
def messageBackRow : OpenClaim := { program := "ytmdojegiimhfcaa", sum := "a5ee56209a7a531981b2f0d32460f5b6fc35e1e6cf65136e09062bf4a792ab15", func := "usufruct/usufructlaw14.MessageBack", spec := "messageBack", unfollowed := true, recurses := true, apart := false }
def MessageBackSaid : Prop := messageBackRow.holds Try.pinned (OpenSpec.ofChange messageBackSpec)

/-- ITS FALSE NEIGHBOUR: 'it returns false'. Refute it at one input. -/
def messageBackWrong : ChangeSpec := { name := "messageBack", fn := fun _ => fun
  | [d] => { results := [.lit (.bool false)], args := [d] }
  | _ => none }
def MessageBackWrongFalsely : Prop := messageBackRow.holds Try.pinned (OpenSpec.ofChange messageBackWrong)

/-- 'usufructlaw14.MessageCuts': WHATEVER THE INPUT: true; the input reads as it did. -/
def messageCutsSpec : ChangeSpec := { name := "messageCuts", fn := fun _ => fun
  | [d1, d2, d3] => { results := [.lit (.bool true)], args := [d1, d2, d3] }
  | _ => none }
def messageCutsRow : OpenClaim := { program := "ytmdojegiimhfcaa", sum := "a5ee56209a7a531981b2f0d32460f5b6fc35e1e6cf65136e09062bf4a792ab15", func := "usufruct/usufructlaw14.MessageCuts", spec := "messageCuts", unfollowed := true, recurses := true, apart := false }
def MessageCutsSaid : Prop := messageCutsRow.holds Try.pinned (OpenSpec.ofChange messageCutsSpec)

/-- ITS FALSE NEIGHBOUR: 'it returns false'. Refute it at one input. -/
def messageCutsWrong : ChangeSpec := { name := "messageCuts", fn := fun _ => fun
  | [d1, d2, d3] => { results := [.lit (.bool false)], args := [d1, d2, d3] }
  | _ => none }
def MessageCutsWrongFalsely : Prop := messageCutsRow.holds Try.pinned (OpenSpec.ofChange messageCutsWrong)

/-- 'usufructlaw14.MessageKinds': WHATEVER THE INPUT: true; the input reads as it did. -/
def messageKindsSpec : ChangeSpec := { name := "messageKinds", fn := fun _ => fun
  | [d] => { results := [.lit (.bool true)], args := [d] }
  | _ => none }
def messageKindsRow : OpenClaim := { program := "ytmdojegiimhfcaa", sum := "a5ee56209a7a531981b2f0d32460f5b6fc35e1e6cf65136e09062bf4a792ab15", func := "usufruct/usufructlaw14.MessageKinds", spec := "messageKinds", unfollowed := true, recurses := true, apart := false }
def MessageKindsSaid : Prop := messageKindsRow.holds Try.pinned (OpenSpec.ofChange messageKindsSpec)

/-- ITS FALSE NEIGHBOUR: 'it returns false'. Refute it at one input. -/
def messageKindsWrong : ChangeSpec := { name := "messageKinds", fn := fun _ => fun
  | [d] => { results := [.lit (.bool false)], args := [d] }
  | _ => none }
def MessageKindsWrongFalsely : Prop := messageKindsRow.holds Try.pinned (OpenSpec.ofChange messageKindsWrong)

/-- 'usufructlaw14.MessageSaid': WHATEVER THE INPUT: true; the input reads as it did. -/
def messageSaidSpec : ChangeSpec := { name := "messageSaid", fn := fun _ => fun
  | [d1, d2] => { results := [.lit (.bool true)], args := [d1, d2] }
  | _ => none }
def messageSaidRow : OpenClaim := { program := "ytmdojegiimhfcaa", sum := "a5ee56209a7a531981b2f0d32460f5b6fc35e1e6cf65136e09062bf4a792ab15", func := "usufruct/usufructlaw14.MessageSaid", spec := "messageSaid", unfollowed := true, recurses := true, apart := false }
def MessageSaidSaid : Prop := messageSaidRow.holds Try.pinned (OpenSpec.ofChange messageSaidSpec)

/-- ITS FALSE NEIGHBOUR: 'it returns false'. Refute it at one input. -/
def messageSaidWrong : ChangeSpec := { name := "messageSaid", fn := fun _ => fun
  | [d1, d2] => { results := [.lit (.bool false)], args := [d1, d2] }
  | _ => none }
def MessageSaidWrongFalsely : Prop := messageSaidRow.holds Try.pinned (OpenSpec.ofChange messageSaidWrong)

/-- 'usufructlaw14.MessageFields': WHATEVER THE INPUT: true; the input reads as it did. -/
def messageFieldsSpec : ChangeSpec := { name := "messageFields", fn := fun _ => fun
  | [d1, d2, d3] => { results := [.lit (.bool true)], args := [d1, d2, d3] }
  | _ => none }
def messageFieldsRow : OpenClaim := { program := "ytmdojegiimhfcaa", sum := "a5ee56209a7a531981b2f0d32460f5b6fc35e1e6cf65136e09062bf4a792ab15", func := "usufruct/usufructlaw14.MessageFields", spec := "messageFields", unfollowed := true, recurses := true, apart := false }
def MessageFieldsSaid : Prop := messageFieldsRow.holds Try.pinned (OpenSpec.ofChange messageFieldsSpec)

/-- ITS FALSE NEIGHBOUR: 'it returns false'. Refute it at one input. -/
def messageFieldsWrong : ChangeSpec := { name := "messageFields", fn := fun _ => fun
  | [d1, d2, d3] => { results := [.lit (.bool false)], args := [d1, d2, d3] }
  | _ => none }
def MessageFieldsWrongFalsely : Prop := messageFieldsRow.holds Try.pinned (OpenSpec.ofChange messageFieldsWrong)

/- THE SECOND FORM. 'bulk': how many values and letters a reading holds, each counted each time it is reached (what is shared counts as often as it is met; a slice's spare places count too). A statement '..UptoSaid' is the law's where the arguments, and the package variables that the reading takes, are together of bulk at most 1048576: NARROWER than '..Said'. Prove '..Said' where nothing that the law and all that it calls make is longer than what came in: it says more and counts as full. Else prove '..UptoSaid'. A law counts once. -/
mutual
def uptoBulk {H : Type} : DataW H → Nat
  | .lit (.string bytes) => bytes.length + 1
  | .lit _ => 1
  | .nil => 1
  | .ptr d => uptoBulk d + 1
  | .slice elems spare => uptoBulkAll elems + uptoBulkAll spare + 1
  | .agg parts => uptoBulkAll parts + 1
  | .iface _ d => uptoBulk d + 1
  | .map entries => uptoBulkEntries entries + 1
  | .held _ => 1
def uptoBulkAll {H : Type} : List (DataW H) → Nat
  | [] => 0
  | d :: r => uptoBulk d + uptoBulkAll r
def uptoBulkEntries {H : Type} : List (Lit × DataW H) → Nat
  | [] => 0
  | x :: r => uptoBulkEntry x + uptoBulkEntries r
def uptoBulkEntry {H : Type} : Lit × DataW H → Nat
  | (.string bytes, d) => bytes.length + uptoBulk d + 1
  | (_, d) => uptoBulk d + 1
 end
def uptoSmall : (H : Type) → List (DataW H) → Bool := fun _ ds => decide (uptoBulkAll ds ≤ 1048576)
def OpenSpec.upto (s : _root_.Go.ChangeSpec) : _root_.Go.OpenSpec := { _root_.Go.OpenSpec.ofChange s with cond := some uptoSmall }

/-- 'usufructlaw14.MessageBack', WHERE WHAT IT READS IS OF BULK AT MOST 1048576: true; the input reads as it did. -/
def messageBackUptoRow : OpenClaim := { program := "ytmdojegiimhfcaa", sum := "a5ee56209a7a531981b2f0d32460f5b6fc35e1e6cf65136e09062bf4a792ab15", func := "usufruct/usufructlaw14.MessageBack", spec := "messageBack", unfollowed := true, recurses := true, apart := false, narrowed := true }
def MessageBackUptoSaid : Prop := messageBackUptoRow.holds Try.pinned (OpenSpec.upto messageBackSpec)

/-- 'usufructlaw14.MessageCuts', WHERE WHAT IT READS IS OF BULK AT MOST 1048576: true; the input reads as it did. -/
def messageCutsUptoRow : OpenClaim := { program := "ytmdojegiimhfcaa", sum := "a5ee56209a7a531981b2f0d32460f5b6fc35e1e6cf65136e09062bf4a792ab15", func := "usufruct/usufructlaw14.MessageCuts", spec := "messageCuts", unfollowed := true, recurses := true, apart := false, narrowed := true }
def MessageCutsUptoSaid : Prop := messageCutsUptoRow.holds Try.pinned (OpenSpec.upto messageCutsSpec)

/-- 'usufructlaw14.MessageKinds', WHERE WHAT IT READS IS OF BULK AT MOST 1048576: true; the input reads as it did. -/
def messageKindsUptoRow : OpenClaim := { program := "ytmdojegiimhfcaa", sum := "a5ee56209a7a531981b2f0d32460f5b6fc35e1e6cf65136e09062bf4a792ab15", func := "usufruct/usufructlaw14.MessageKinds", spec := "messageKinds", unfollowed := true, recurses := true, apart := false, narrowed := true }
def MessageKindsUptoSaid : Prop := messageKindsUptoRow.holds Try.pinned (OpenSpec.upto messageKindsSpec)

/-- 'usufructlaw14.MessageSaid', WHERE WHAT IT READS IS OF BULK AT MOST 1048576: true; the input reads as it did. -/
def messageSaidUptoRow : OpenClaim := { program := "ytmdojegiimhfcaa", sum := "a5ee56209a7a531981b2f0d32460f5b6fc35e1e6cf65136e09062bf4a792ab15", func := "usufruct/usufructlaw14.MessageSaid", spec := "messageSaid", unfollowed := true, recurses := true, apart := false, narrowed := true }
def MessageSaidUptoSaid : Prop := messageSaidUptoRow.holds Try.pinned (OpenSpec.upto messageSaidSpec)

/-- 'usufructlaw14.MessageFields', WHERE WHAT IT READS IS OF BULK AT MOST 1048576: true; the input reads as it did. -/
def messageFieldsUptoRow : OpenClaim := { program := "ytmdojegiimhfcaa", sum := "a5ee56209a7a531981b2f0d32460f5b6fc35e1e6cf65136e09062bf4a792ab15", func := "usufruct/usufructlaw14.MessageFields", spec := "messageFields", unfollowed := true, recurses := true, apart := false, narrowed := true }
def MessageFieldsUptoSaid : Prop := messageFieldsUptoRow.holds Try.pinned (OpenSpec.upto messageFieldsSpec)

end Rows
end Go.Proofs.Ytmdojegiimhfcaa
