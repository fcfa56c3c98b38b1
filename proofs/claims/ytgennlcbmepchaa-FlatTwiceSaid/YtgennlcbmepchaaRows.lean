/-
  No cell of these rows narrows 'for every input' (looked for: loops, veiled, ifaces, maps, wideKeys, modest, calm, conditions, laid).
  DERIVED. THE GIVEN ROWS OF THIS SEAT. 4 by the template 'for every input the law returns true; each argument reads behind the call as it read before'; 0 by the template 'total and deterministic' (their statements: YtgennlcbmepchaaTotals.lean).
  GIVEN WITH THE SEED: the statements are not yours to turn. If you find one false, say at which input.
  Laid BY PROGRAM, IN A SANDBOX (cutbox-rows.mjs): the forced cells as the released guide's own fill.sh prints them over the translation ca376c26748eb0d2… (all of the seat's roots in one cut). By AI agents, Wed Nov 11 2026. No macro, syntax, notation, axiom, sorry.
-/
import Derived.Test.YtgennlcbmepchaaChecked
import GoSem.Claim
import GoSem.ClaimJoined
import GoSem.ClaimMapViews
import Derived.JoinedTies
import Derived.KernelRfl
namespace Go.Proofs.Ytgennlcbmepchaa
/- THE CELL 'sum', in the pinned program and in every row, IS THE sha256 OF THE DUMP (.gsa) THAT YtgennlcbmepchaaProg.lean LOADS. Nothing in Lean hashes anything: it is a label: what it is worth is what the hold of that sum in a sandbox is worth. -/
noncomputable def Try.pinned : Pinned := { name := "ytgennlcbmepchaa", sum := "ca376c26748eb0d2672fb903e6dedac46135dd35c7e03a41c36375ab465f75be", checked := Try.checked }
namespace Rows
def none {H : Type} : Left H := { results := [], args := [] }

/-- 'redactorlaw16.FlatDeep': WHATEVER THE INPUT: true; the input reads as it did. -/
def flatDeepSpec : ChangeSpec := { name := "flatDeep", fn := fun _ => fun
  | [d1, d2] => { results := [.lit (.bool true)], args := [d1, d2] }
  | _ => none }
def flatDeepRow : OpenClaim := { program := "ytgennlcbmepchaa", sum := "ca376c26748eb0d2672fb903e6dedac46135dd35c7e03a41c36375ab465f75be", func := "redactor/redactorlaw16.FlatDeep", spec := "flatDeep", unfollowed := true, recurses := true, apart := false }
def FlatDeepSaid : Prop := flatDeepRow.holds Try.pinned (OpenSpec.ofChange flatDeepSpec)

/-- ITS FALSE NEIGHBOUR: 'it returns false'. Refute it at one input. -/
def flatDeepWrong : ChangeSpec := { name := "flatDeep", fn := fun _ => fun
  | [d1, d2] => { results := [.lit (.bool false)], args := [d1, d2] }
  | _ => none }
def FlatDeepWrongFalsely : Prop := flatDeepRow.holds Try.pinned (OpenSpec.ofChange flatDeepWrong)

/-- 'redactorlaw16.FlatLeads': WHATEVER THE INPUT: true; the input reads as it did. -/
def flatLeadsSpec : ChangeSpec := { name := "flatLeads", fn := fun _ => fun
  | [d] => { results := [.lit (.bool true)], args := [d] }
  | _ => none }
def flatLeadsRow : OpenClaim := { program := "ytgennlcbmepchaa", sum := "ca376c26748eb0d2672fb903e6dedac46135dd35c7e03a41c36375ab465f75be", func := "redactor/redactorlaw16.FlatLeads", spec := "flatLeads", unfollowed := true, recurses := true, apart := false }
def FlatLeadsSaid : Prop := flatLeadsRow.holds Try.pinned (OpenSpec.ofChange flatLeadsSpec)

/-- ITS FALSE NEIGHBOUR: 'it returns false'. Refute it at one input. -/
def flatLeadsWrong : ChangeSpec := { name := "flatLeads", fn := fun _ => fun
  | [d] => { results := [.lit (.bool false)], args := [d] }
  | _ => none }
def FlatLeadsWrongFalsely : Prop := flatLeadsRow.holds Try.pinned (OpenSpec.ofChange flatLeadsWrong)

/-- 'redactorlaw16.FlatTwice': WHATEVER THE INPUT: true; the input reads as it did. -/
def flatTwiceSpec : ChangeSpec := { name := "flatTwice", fn := fun _ => fun
  | [d] => { results := [.lit (.bool true)], args := [d] }
  | _ => none }
def flatTwiceRow : OpenClaim := { program := "ytgennlcbmepchaa", sum := "ca376c26748eb0d2672fb903e6dedac46135dd35c7e03a41c36375ab465f75be", func := "redactor/redactorlaw16.FlatTwice", spec := "flatTwice", unfollowed := true, recurses := true, apart := false }
def FlatTwiceSaid : Prop := flatTwiceRow.holds Try.pinned (OpenSpec.ofChange flatTwiceSpec)

/-- ITS FALSE NEIGHBOUR: 'it returns false'. Refute it at one input. -/
def flatTwiceWrong : ChangeSpec := { name := "flatTwice", fn := fun _ => fun
  | [d] => { results := [.lit (.bool false)], args := [d] }
  | _ => none }
def FlatTwiceWrongFalsely : Prop := flatTwiceRow.holds Try.pinned (OpenSpec.ofChange flatTwiceWrong)

/-- 'redactorlaw16.FlatLabels': WHATEVER THE INPUT: true; the input reads as it did. -/
def flatLabelsSpec : ChangeSpec := { name := "flatLabels", fn := fun _ => fun
  | [d1, d2, d3] => { results := [.lit (.bool true)], args := [d1, d2, d3] }
  | _ => none }
def flatLabelsRow : OpenClaim := { program := "ytgennlcbmepchaa", sum := "ca376c26748eb0d2672fb903e6dedac46135dd35c7e03a41c36375ab465f75be", func := "redactor/redactorlaw16.FlatLabels", spec := "flatLabels", unfollowed := true, recurses := true, apart := false }
def FlatLabelsSaid : Prop := flatLabelsRow.holds Try.pinned (OpenSpec.ofChange flatLabelsSpec)

/-- ITS FALSE NEIGHBOUR: 'it returns false'. Refute it at one input. -/
def flatLabelsWrong : ChangeSpec := { name := "flatLabels", fn := fun _ => fun
  | [d1, d2, d3] => { results := [.lit (.bool false)], args := [d1, d2, d3] }
  | _ => none }
def FlatLabelsWrongFalsely : Prop := flatLabelsRow.holds Try.pinned (OpenSpec.ofChange flatLabelsWrong)

/- THE SECOND FORM. 'bulk': how many values and letters a reading holds, each counted each time it is reached (what is shared counts as often as it is met; a slice's spare places count too). A statement '..UptoSaid' is the law's where the arguments, and the package variables that the reading takes, are together of bulk at most 1048576: NARROWER than '..Said'. Prove '..Said' where nothing that the law and all that it calls make is longer than what came in: it says more and counts as full. Else prove '..UptoSaid'. A law counts once. -/
mutual
def uptoBulk {H : Type} : DataW H → Nat
  | .lit (.string bytes) => bytes.length + 1
  | .lit _ => 1
  | .nil => 1
  | .ptr d => uptoBulk d + 1
  | .slice elems spare => uptoBulkAll elems + uptoBulkAll spare + 1
  | .agg parts => uptoBulkAll parts + 1
  | .iface _ d => uptoBulk d + 1
  | .map entries => uptoBulkEntries entries + 1
  | .held _ => 1
def uptoBulkAll {H : Type} : List (DataW H) → Nat
  | [] => 0
  | d :: r => uptoBulk d + uptoBulkAll r
def uptoBulkEntries {H : Type} : List (Lit × DataW H) → Nat
  | [] => 0
  | x :: r => uptoBulkEntry x + uptoBulkEntries r
def uptoBulkEntry {H : Type} : Lit × DataW H → Nat
  | (.string bytes, d) => bytes.length + uptoBulk d + 1
  | (_, d) => uptoBulk d + 1
 end
def uptoSmall : (H : Type) → List (DataW H) → Bool := fun _ ds => decide (uptoBulkAll ds ≤ 1048576)
def OpenSpec.upto (s : _root_.Go.ChangeSpec) : _root_.Go.OpenSpec := { _root_.Go.OpenSpec.ofChange s with cond := some uptoSmall }

/-- 'redactorlaw16.FlatDeep', WHERE WHAT IT READS IS OF BULK AT MOST 1048576: true; the input reads as it did. -/
def flatDeepUptoRow : OpenClaim := { program := "ytgennlcbmepchaa", sum := "ca376c26748eb0d2672fb903e6dedac46135dd35c7e03a41c36375ab465f75be", func := "redactor/redactorlaw16.FlatDeep", spec := "flatDeep", unfollowed := true, recurses := true, apart := false, narrowed := true }
def FlatDeepUptoSaid : Prop := flatDeepUptoRow.holds Try.pinned (OpenSpec.upto flatDeepSpec)

/-- 'redactorlaw16.FlatLeads', WHERE WHAT IT READS IS OF BULK AT MOST 1048576: true; the input reads as it did. -/
def flatLeadsUptoRow : OpenClaim := { program := "ytgennlcbmepchaa", sum := "ca376c26748eb0d2672fb903e6dedac46135dd35c7e03a41c36375ab465f75be", func := "redactor/redactorlaw16.FlatLeads", spec := "flatLeads", unfollowed := true, recurses := true, apart := false, narrowed := true }
def FlatLeadsUptoSaid : Prop := flatLeadsUptoRow.holds Try.pinned (OpenSpec.upto flatLeadsSpec)

/-- 'redactorlaw16.FlatTwice', WHERE WHAT IT READS IS OF BULK AT MOST 1048576: true; the input reads as it did. -/
def flatTwiceUptoRow : OpenClaim := { program := "ytgennlcbmepchaa", sum := "ca376c26748eb0d2672fb903e6dedac46135dd35c7e03a41c36375ab465f75be", func := "redactor/redactorlaw16.FlatTwice", spec := "flatTwice", unfollowed := true, recurses := true, apart := false, narrowed := true }
def FlatTwiceUptoSaid : Prop := flatTwiceUptoRow.holds Try.pinned (OpenSpec.upto flatTwiceSpec)

/-- 'redactorlaw16.FlatLabels', WHERE WHAT IT READS IS OF BULK AT MOST 1048576: true; the input reads as it did. -/
def flatLabelsUptoRow : OpenClaim := { program := "ytgennlcbmepchaa", sum := "ca376c26748eb0d2672fb903e6dedac46135dd35c7e03a41c36375ab465f75be", func := "redactor/redactorlaw16.FlatLabels", spec := "flatLabels", unfollowed := true, recurses := true, apart := false, narrowed := true }
def FlatLabelsUptoSaid : Prop := flatLabelsUptoRow.holds Try.pinned (OpenSpec.upto flatLabelsSpec)

end Rows
end Go.Proofs.Ytgennlcbmepchaa
