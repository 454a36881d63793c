/-
  No cell of these rows narrows 'for every input' (looked for: loops, veiled, ifaces, maps, wideKeys, modest, calm, conditions, laid).
  DERIVED. THE GIVEN ROWS OF THIS SEAT. 8 by the template 'for every input the law returns true; each argument reads behind the call as it read before'; 0 by the template 'total and deterministic' (their statements: YtpjichkigccfnaaTotals.lean).
  GIVEN WITH THE SEED: the statements are not yours to turn. If you find one false, say at which input.
  Laid BY PROGRAM, IN A SANDBOX (cutbox-rows.mjs): the forced cells as the released guide's own fill.sh prints them over the translation 3d4128ae3b39ca64… (all of the seat's roots in one cut). By AI agents, Wed Nov 11 2026. No macro, syntax, notation, axiom, sorry.
-/
import Derived.Test.YtpjichkigccfnaaChecked
import GoSem.Claim
import GoSem.ClaimJoined
import GoSem.ClaimMapViews
import Derived.JoinedTies
import Derived.KernelRfl
namespace Go.Proofs.Ytpjichkigccfnaa
/- THE CELL 'sum', in the pinned program and in every row, IS THE sha256 OF THE DUMP (.gsa) THAT YtpjichkigccfnaaProg.lean LOADS. Nothing in Lean hashes anything: it is a label: what it is worth is what the hold of that sum in a sandbox is worth. -/
noncomputable def Try.pinned : Pinned := { name := "ytpjichkigccfnaa", sum := "3d4128ae3b39ca641e45f1bef98e1b658bb9f1cb2f8fc38fc74703adf05bcc4f", checked := Try.checked }
namespace Rows
def none {H : Type} : Left H := { results := [], args := [] }

/-- 'usufructlaw14.MessageBack': WHATEVER THE INPUT: true; the input reads as it did. -/
def messageBackSpec : ChangeSpec := { name := "messageBack", fn := fun _ => fun
  | [d] => { results := [.lit (.bool true)], args := [d] }
  | _ => none }
def messageBackRow : OpenClaim := { program := "ytpjichkigccfnaa", sum := "3d4128ae3b39ca641e45f1bef98e1b658bb9f1cb2f8fc38fc74703adf05bcc4f", func := "usufruct/usufructlaw14.MessageBack", spec := "messageBack", unfollowed := true, recurses := true, apart := false }
def MessageBackSaid : Prop := messageBackRow.holds Try.pinned (OpenSpec.ofChange messageBackSpec)

/-- ITS FALSE NEIGHBOUR: 'it returns false'. Refute it at one input. -/
def messageBackWrong : ChangeSpec := { name := "messageBack", fn := fun _ => fun
  | [d] => { results := [.lit (.bool false)], args := [d] }
  | _ => none }
def MessageBackWrongFalsely : Prop := messageBackRow.holds Try.pinned (OpenSpec.ofChange messageBackWrong)

/-- 'usufructlaw14.MessageCuts': WHATEVER THE INPUT: true; the input reads as it did. -/
def messageCutsSpec : ChangeSpec := { name := "messageCuts", fn := fun _ => fun
  | [d1, d2, d3] => { results := [.lit (.bool true)], args := [d1, d2, d3] }
  | _ => none }
def messageCutsRow : OpenClaim := { program := "ytpjichkigccfnaa", sum := "3d4128ae3b39ca641e45f1bef98e1b658bb9f1cb2f8fc38fc74703adf05bcc4f", func := "usufruct/usufructlaw14.MessageCuts", spec := "messageCuts", unfollowed := true, recurses := true, apart := false }
def MessageCutsSaid : Prop := messageCutsRow.holds Try.pinned (OpenSpec.ofChange messageCutsSpec)

/-- ITS FALSE NEIGHBOUR: 'it returns false'. Refute it at one input. -/
def messageCutsWrong : ChangeSpec := { name := "messageCuts", fn := fun _ => fun
  | [d1, d2, d3] => { results := [.lit (.bool false)], args := [d1, d2, d3] }
  | _ => none }
def MessageCutsWrongFalsely : Prop := messageCutsRow.holds Try.pinned (OpenSpec.ofChange messageCutsWrong)

/-- 'usufructlaw14.MessageKinds': WHATEVER THE INPUT: true; the input reads as it did. -/
def messageKindsSpec : ChangeSpec := { name := "messageKinds", fn := fun _ => fun
  | [d] => { results := [.lit (.bool true)], args := [d] }
  | _ => none }
def messageKindsRow : OpenClaim := { program := "ytpjichkigccfnaa", sum := "3d4128ae3b39ca641e45f1bef98e1b658bb9f1cb2f8fc38fc74703adf05bcc4f", func := "usufruct/usufructlaw14.MessageKinds", spec := "messageKinds", unfollowed := true, recurses := true, apart := false }
def MessageKindsSaid : Prop := messageKindsRow.holds Try.pinned (OpenSpec.ofChange messageKindsSpec)

/-- ITS FALSE NEIGHBOUR: 'it returns false'. Refute it at one input. -/
def messageKindsWrong : ChangeSpec := { name := "messageKinds", fn := fun _ => fun
  | [d] => { results := [.lit (.bool false)], args := [d] }
  | _ => none }
def MessageKindsWrongFalsely : Prop := messageKindsRow.holds Try.pinned (OpenSpec.ofChange messageKindsWrong)

/-- 'usufructlaw14.MessageSaid': WHATEVER THE INPUT: true; the input reads as it did. -/
def messageSaidSpec : ChangeSpec := { name := "messageSaid", fn := fun _ => fun
  | [d1, d2] => { results := [.lit (.bool true)], args := [d1, d2] }
  | _ => none }
def messageSaidRow : OpenClaim := { program := "ytpjichkigccfnaa", sum := "3d4128ae3b39ca641e45f1bef98e1b658bb9f1cb2f8fc38fc74703adf05bcc4f", func := "usufruct/usufructlaw14.MessageSaid", spec := "messageSaid", unfollowed := true, recurses := true, apart := false }
def MessageSaidSaid : Prop := messageSaidRow.holds Try.pinned (OpenSpec.ofChange messageSaidSpec)

/-- ITS FALSE NEIGHBOUR: 'it returns false'. Refute it at one input. -/
def messageSaidWrong : ChangeSpec := { name := "messageSaid", fn := fun _ => fun
  | [d1, d2] => { results := [.lit (.bool false)], args := [d1, d2] }
  | _ => none }
def MessageSaidWrongFalsely : Prop := messageSaidRow.holds Try.pinned (OpenSpec.ofChange messageSaidWrong)

/-- 'usufructlaw14.MessageFields': WHATEVER THE INPUT: true; the input reads as it did. -/
def messageFieldsSpec : ChangeSpec := { name := "messageFields", fn := fun _ => fun
  | [d1, d2, d3] => { results := [.lit (.bool true)], args := [d1, d2, d3] }
  | _ => none }
def messageFieldsRow : OpenClaim := { program := "ytpjichkigccfnaa", sum := "3d4128ae3b39ca641e45f1bef98e1b658bb9f1cb2f8fc38fc74703adf05bcc4f", func := "usufruct/usufructlaw14.MessageFields", spec := "messageFields", unfollowed := true, recurses := true, apart := false }
def MessageFieldsSaid : Prop := messageFieldsRow.holds Try.pinned (OpenSpec.ofChange messageFieldsSpec)

/-- ITS FALSE NEIGHBOUR: 'it returns false'. Refute it at one input. -/
def messageFieldsWrong : ChangeSpec := { name := "messageFields", fn := fun _ => fun
  | [d1, d2, d3] => { results := [.lit (.bool false)], args := [d1, d2, d3] }
  | _ => none }
def MessageFieldsWrongFalsely : Prop := messageFieldsRow.holds Try.pinned (OpenSpec.ofChange messageFieldsWrong)

/-- 'usufructlaw15.NetOrder': WHATEVER THE INPUT: true; the input reads as it did. -/
def netOrderSpec : ChangeSpec := { name := "netOrder", fn := fun _ => fun
  | [d] => { results := [.lit (.bool true)], args := [d] }
  | _ => none }
def netOrderRow : OpenClaim := { program := "ytpjichkigccfnaa", sum := "3d4128ae3b39ca641e45f1bef98e1b658bb9f1cb2f8fc38fc74703adf05bcc4f", func := "usufruct/usufructlaw15.NetOrder", spec := "netOrder", unfollowed := true, recurses := true, apart := false }
def NetOrderSaid : Prop := netOrderRow.holds Try.pinned (OpenSpec.ofChange netOrderSpec)

/-- ITS FALSE NEIGHBOUR: 'it returns false'. Refute it at one input. -/
def netOrderWrong : ChangeSpec := { name := "netOrder", fn := fun _ => fun
  | [d] => { results := [.lit (.bool false)], args := [d] }
  | _ => none }
def NetOrderWrongFalsely : Prop := netOrderRow.holds Try.pinned (OpenSpec.ofChange netOrderWrong)

/-- 'usufructlaw15.NetNobody': WHATEVER THE INPUT: true; the input reads as it did. -/
def netNobodySpec : ChangeSpec := { name := "netNobody", fn := fun _ => fun
  | [d1, d2] => { results := [.lit (.bool true)], args := [d1, d2] }
  | _ => none }
def netNobodyRow : OpenClaim := { program := "ytpjichkigccfnaa", sum := "3d4128ae3b39ca641e45f1bef98e1b658bb9f1cb2f8fc38fc74703adf05bcc4f", func := "usufruct/usufructlaw15.NetNobody", spec := "netNobody", unfollowed := true, recurses := true, apart := false }
def NetNobodySaid : Prop := netNobodyRow.holds Try.pinned (OpenSpec.ofChange netNobodySpec)

/-- ITS FALSE NEIGHBOUR: 'it returns false'. Refute it at one input. -/
def netNobodyWrong : ChangeSpec := { name := "netNobody", fn := fun _ => fun
  | [d1, d2] => { results := [.lit (.bool false)], args := [d1, d2] }
  | _ => none }
def NetNobodyWrongFalsely : Prop := netNobodyRow.holds Try.pinned (OpenSpec.ofChange netNobodyWrong)

/-- 'usufructlaw15.NetTakes': WHATEVER THE INPUT: true; the input reads as it did. -/
def netTakesSpec : ChangeSpec := { name := "netTakes", fn := fun _ => fun
  | [d1, d2] => { results := [.lit (.bool true)], args := [d1, d2] }
  | _ => none }
def netTakesRow : OpenClaim := { program := "ytpjichkigccfnaa", sum := "3d4128ae3b39ca641e45f1bef98e1b658bb9f1cb2f8fc38fc74703adf05bcc4f", func := "usufruct/usufructlaw15.NetTakes", spec := "netTakes", unfollowed := true, recurses := true, apart := false }
def NetTakesSaid : Prop := netTakesRow.holds Try.pinned (OpenSpec.ofChange netTakesSpec)

/-- ITS FALSE NEIGHBOUR: 'it returns false'. Refute it at one input. -/
def netTakesWrong : ChangeSpec := { name := "netTakes", fn := fun _ => fun
  | [d1, d2] => { results := [.lit (.bool false)], args := [d1, d2] }
  | _ => none }
def NetTakesWrongFalsely : Prop := netTakesRow.holds Try.pinned (OpenSpec.ofChange netTakesWrong)

/- THE SECOND FORM. 'bulk': how many values and letters a reading holds, each counted each time it is reached (what is shared counts as often as it is met; a slice's spare places count too). A statement '..UptoSaid' is the law's where the arguments, and the package variables that the reading takes, are together of bulk at most 1048576: NARROWER than '..Said'. Prove '..Said' where nothing that the law and all that it calls make is longer than what came in: it says more and counts as full. Else prove '..UptoSaid'. A law counts once. -/
mutual
def uptoBulk {H : Type} : DataW H → Nat
  | .lit (.string bytes) => bytes.length + 1
  | .lit _ => 1
  | .nil => 1
  | .ptr d => uptoBulk d + 1
  | .slice elems spare => uptoBulkAll elems + uptoBulkAll spare + 1
  | .agg parts => uptoBulkAll parts + 1
  | .iface _ d => uptoBulk d + 1
  | .map entries => uptoBulkEntries entries + 1
  | .held _ => 1
def uptoBulkAll {H : Type} : List (DataW H) → Nat
  | [] => 0
  | d :: r => uptoBulk d + uptoBulkAll r
def uptoBulkEntries {H : Type} : List (Lit × DataW H) → Nat
  | [] => 0
  | x :: r => uptoBulkEntry x + uptoBulkEntries r
def uptoBulkEntry {H : Type} : Lit × DataW H → Nat
  | (.string bytes, d) => bytes.length + uptoBulk d + 1
  | (_, d) => uptoBulk d + 1
 end
def uptoSmall : (H : Type) → List (DataW H) → Bool := fun _ ds => decide (uptoBulkAll ds ≤ 1048576)
def OpenSpec.upto (s : _root_.Go.ChangeSpec) : _root_.Go.OpenSpec := { _root_.Go.OpenSpec.ofChange s with cond := some uptoSmall }

/-- 'usufructlaw14.MessageBack', WHERE WHAT IT READS IS OF BULK AT MOST 1048576: true; the input reads as it did. -/
def messageBackUptoRow : OpenClaim := { program := "ytpjichkigccfnaa", sum := "3d4128ae3b39ca641e45f1bef98e1b658bb9f1cb2f8fc38fc74703adf05bcc4f", func := "usufruct/usufructlaw14.MessageBack", spec := "messageBack", unfollowed := true, recurses := true, apart := false, narrowed := true }
def MessageBackUptoSaid : Prop := messageBackUptoRow.holds Try.pinned (OpenSpec.upto messageBackSpec)

/-- 'usufructlaw14.MessageCuts', WHERE WHAT IT READS IS OF BULK AT MOST 1048576: true; the input reads as it did. -/
def messageCutsUptoRow : OpenClaim := { program := "ytpjichkigccfnaa", sum := "3d4128ae3b39ca641e45f1bef98e1b658bb9f1cb2f8fc38fc74703adf05bcc4f", func := "usufruct/usufructlaw14.MessageCuts", spec := "messageCuts", unfollowed := true, recurses := true, apart := false, narrowed := true }
def MessageCutsUptoSaid : Prop := messageCutsUptoRow.holds Try.pinned (OpenSpec.upto messageCutsSpec)

/-- 'usufructlaw14.MessageKinds', WHERE WHAT IT READS IS OF BULK AT MOST 1048576: true; the input reads as it did. -/
def messageKindsUptoRow : OpenClaim := { program := "ytpjichkigccfnaa", sum := "3d4128ae3b39ca641e45f1bef98e1b658bb9f1cb2f8fc38fc74703adf05bcc4f", func := "usufruct/usufructlaw14.MessageKinds", spec := "messageKinds", unfollowed := true, recurses := true, apart := false, narrowed := true }
def MessageKindsUptoSaid : Prop := messageKindsUptoRow.holds Try.pinned (OpenSpec.upto messageKindsSpec)

/-- 'usufructlaw14.MessageSaid', WHERE WHAT IT READS IS OF BULK AT MOST 1048576: true; the input reads as it did. -/
def messageSaidUptoRow : OpenClaim := { program := "ytpjichkigccfnaa", sum := "3d4128ae3b39ca641e45f1bef98e1b658bb9f1cb2f8fc38fc74703adf05bcc4f", func := "usufruct/usufructlaw14.MessageSaid", spec := "messageSaid", unfollowed := true, recurses := true, apart := false, narrowed := true }
def MessageSaidUptoSaid : Prop := messageSaidUptoRow.holds Try.pinned (OpenSpec.upto messageSaidSpec)

/-- 'usufructlaw14.MessageFields', WHERE WHAT IT READS IS OF BULK AT MOST 1048576: true; the input reads as it did. -/
def messageFieldsUptoRow : OpenClaim := { program := "ytpjichkigccfnaa", sum := "3d4128ae3b39ca641e45f1bef98e1b658bb9f1cb2f8fc38fc74703adf05bcc4f", func := "usufruct/usufructlaw14.MessageFields", spec := "messageFields", unfollowed := true, recurses := true, apart := false, narrowed := true }
def MessageFieldsUptoSaid : Prop := messageFieldsUptoRow.holds Try.pinned (OpenSpec.upto messageFieldsSpec)

/-- 'usufructlaw15.NetOrder', WHERE WHAT IT READS IS OF BULK AT MOST 1048576: true; the input reads as it did. -/
def netOrderUptoRow : OpenClaim := { program := "ytpjichkigccfnaa", sum := "3d4128ae3b39ca641e45f1bef98e1b658bb9f1cb2f8fc38fc74703adf05bcc4f", func := "usufruct/usufructlaw15.NetOrder", spec := "netOrder", unfollowed := true, recurses := true, apart := false, narrowed := true }
def NetOrderUptoSaid : Prop := netOrderUptoRow.holds Try.pinned (OpenSpec.upto netOrderSpec)

/-- 'usufructlaw15.NetNobody', WHERE WHAT IT READS IS OF BULK AT MOST 1048576: true; the input reads as it did. -/
def netNobodyUptoRow : OpenClaim := { program := "ytpjichkigccfnaa", sum := "3d4128ae3b39ca641e45f1bef98e1b658bb9f1cb2f8fc38fc74703adf05bcc4f", func := "usufruct/usufructlaw15.NetNobody", spec := "netNobody", unfollowed := true, recurses := true, apart := false, narrowed := true }
def NetNobodyUptoSaid : Prop := netNobodyUptoRow.holds Try.pinned (OpenSpec.upto netNobodySpec)

/-- 'usufructlaw15.NetTakes', WHERE WHAT IT READS IS OF BULK AT MOST 1048576: true; the input reads as it did. -/
def netTakesUptoRow : OpenClaim := { program := "ytpjichkigccfnaa", sum := "3d4128ae3b39ca641e45f1bef98e1b658bb9f1cb2f8fc38fc74703adf05bcc4f", func := "usufruct/usufructlaw15.NetTakes", spec := "netTakes", unfollowed := true, recurses := true, apart := false, narrowed := true }
def NetTakesUptoSaid : Prop := netTakesUptoRow.holds Try.pinned (OpenSpec.upto netTakesSpec)

end Rows
end Go.Proofs.Ytpjichkigccfnaa
