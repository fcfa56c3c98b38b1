/-
  No cell of these rows narrows 'for every input' (looked for: loops, veiled, ifaces, maps, wideKeys, modest, calm, conditions, laid).
  DERIVED. THE GIVEN ROWS OF THIS SEAT. 6 by the template 'for every input the law returns true; each argument reads behind the call as it read before'; 0 by the template 'total and deterministic' (their statements: YtfgccmgfkfhfcaaTotals.lean).
  GIVEN WITH THE SEED: the statements are not yours to turn. If you find one false, say at which input.
  Laid BY PROGRAM, IN A SANDBOX (cutbox-rows.mjs): the forced cells as the released guide's own fill.sh prints them over the translation 5193cff056fc2e7c… (all of the seat's roots in one cut). By AI agents, Wed Nov 11 2026. No macro, syntax, notation, axiom, sorry.
-/
import Derived.Test.YtfgccmgfkfhfcaaChecked
import GoSem.Claim
import GoSem.ClaimJoined
import GoSem.ClaimMapViews
import Derived.JoinedTies
import Derived.KernelRfl
namespace Go.Proofs.Ytfgccmgfkfhfcaa
/- THE CELL 'sum', in the pinned program and in every row, IS THE sha256 OF THE DUMP (.gsa) THAT YtfgccmgfkfhfcaaProg.lean LOADS. Nothing in Lean hashes anything: it is a label: what it is worth is what the hold of that sum in a sandbox is worth. -/
noncomputable def Try.pinned : Pinned := { name := "ytfgccmgfkfhfcaa", sum := "5193cff056fc2e7c1514ebefc0548ac437058f6a5efdd410da888799321fa688", checked := Try.checked }
namespace Rows
def none {H : Type} : Left H := { results := [], args := [] }

/-- 'redactorlaw14.SubstTurns': WHATEVER THE INPUT: true; the input reads as it did. -/
def substTurnsSpec : ChangeSpec := { name := "substTurns", fn := fun _ => fun
  | [d1, d2] => { results := [.lit (.bool true)], args := [d1, d2] }
  | _ => none }
def substTurnsRow : OpenClaim := { program := "ytfgccmgfkfhfcaa", sum := "5193cff056fc2e7c1514ebefc0548ac437058f6a5efdd410da888799321fa688", func := "redactor/redactorlaw14.SubstTurns", spec := "substTurns", apart := false }
def SubstTurnsSaid : Prop := substTurnsRow.holds Try.pinned (OpenSpec.ofChange substTurnsSpec)

/-- ITS FALSE NEIGHBOUR: 'it returns false'. Refute it at one input. -/
def substTurnsWrong : ChangeSpec := { name := "substTurns", fn := fun _ => fun
  | [d1, d2] => { results := [.lit (.bool false)], args := [d1, d2] }
  | _ => none }
def SubstTurnsWrongFalsely : Prop := substTurnsRow.holds Try.pinned (OpenSpec.ofChange substTurnsWrong)

/-- 'redactorlaw14.SubstMaps': WHATEVER THE INPUT: true; the input reads as it did. -/
def substMapsSpec : ChangeSpec := { name := "substMaps", fn := fun _ => fun
  | [d1, d2, d3] => { results := [.lit (.bool true)], args := [d1, d2, d3] }
  | _ => none }
def substMapsRow : OpenClaim := { program := "ytfgccmgfkfhfcaa", sum := "5193cff056fc2e7c1514ebefc0548ac437058f6a5efdd410da888799321fa688", func := "redactor/redactorlaw14.SubstMaps", spec := "substMaps", apart := false }
def SubstMapsSaid : Prop := substMapsRow.holds Try.pinned (OpenSpec.ofChange substMapsSpec)

/-- ITS FALSE NEIGHBOUR: 'it returns false'. Refute it at one input. -/
def substMapsWrong : ChangeSpec := { name := "substMaps", fn := fun _ => fun
  | [d1, d2, d3] => { results := [.lit (.bool false)], args := [d1, d2, d3] }
  | _ => none }
def SubstMapsWrongFalsely : Prop := substMapsRow.holds Try.pinned (OpenSpec.ofChange substMapsWrong)

/-- 'redactorlaw14.SubstAll': WHATEVER THE INPUT: true; the input reads as it did. -/
def substAllSpec : ChangeSpec := { name := "substAll", fn := fun _ => fun
  | [d1, d2, d3, d4] => { results := [.lit (.bool true)], args := [d1, d2, d3, d4] }
  | _ => none }
def substAllRow : OpenClaim := { program := "ytfgccmgfkfhfcaa", sum := "5193cff056fc2e7c1514ebefc0548ac437058f6a5efdd410da888799321fa688", func := "redactor/redactorlaw14.SubstAll", spec := "substAll", apart := false }
def SubstAllSaid : Prop := substAllRow.holds Try.pinned (OpenSpec.ofChange substAllSpec)

/-- ITS FALSE NEIGHBOUR: 'it returns false'. Refute it at one input. -/
def substAllWrong : ChangeSpec := { name := "substAll", fn := fun _ => fun
  | [d1, d2, d3, d4] => { results := [.lit (.bool false)], args := [d1, d2, d3, d4] }
  | _ => none }
def SubstAllWrongFalsely : Prop := substAllRow.holds Try.pinned (OpenSpec.ofChange substAllWrong)

/-- 'redactorlaw14.SubstEnds': WHATEVER THE INPUT: true; the input reads as it did. -/
def substEndsSpec : ChangeSpec := { name := "substEnds", fn := fun _ => fun
  | [d1, d2] => { results := [.lit (.bool true)], args := [d1, d2] }
  | _ => none }
def substEndsRow : OpenClaim := { program := "ytfgccmgfkfhfcaa", sum := "5193cff056fc2e7c1514ebefc0548ac437058f6a5efdd410da888799321fa688", func := "redactor/redactorlaw14.SubstEnds", spec := "substEnds", apart := false }
def SubstEndsSaid : Prop := substEndsRow.holds Try.pinned (OpenSpec.ofChange substEndsSpec)

/-- ITS FALSE NEIGHBOUR: 'it returns false'. Refute it at one input. -/
def substEndsWrong : ChangeSpec := { name := "substEnds", fn := fun _ => fun
  | [d1, d2] => { results := [.lit (.bool false)], args := [d1, d2] }
  | _ => none }
def SubstEndsWrongFalsely : Prop := substEndsRow.holds Try.pinned (OpenSpec.ofChange substEndsWrong)

/-- 'redactorlaw14.SubstExpands': WHATEVER THE INPUT: true; the input reads as it did. -/
def substExpandsSpec : ChangeSpec := { name := "substExpands", fn := fun _ => fun
  | [d1, d2, d3, d4, d5] => { results := [.lit (.bool true)], args := [d1, d2, d3, d4, d5] }
  | _ => none }
def substExpandsRow : OpenClaim := { program := "ytfgccmgfkfhfcaa", sum := "5193cff056fc2e7c1514ebefc0548ac437058f6a5efdd410da888799321fa688", func := "redactor/redactorlaw14.SubstExpands", spec := "substExpands", apart := false }
def SubstExpandsSaid : Prop := substExpandsRow.holds Try.pinned (OpenSpec.ofChange substExpandsSpec)

/-- ITS FALSE NEIGHBOUR: 'it returns false'. Refute it at one input. -/
def substExpandsWrong : ChangeSpec := { name := "substExpands", fn := fun _ => fun
  | [d1, d2, d3, d4, d5] => { results := [.lit (.bool false)], args := [d1, d2, d3, d4, d5] }
  | _ => none }
def SubstExpandsWrongFalsely : Prop := substExpandsRow.holds Try.pinned (OpenSpec.ofChange substExpandsWrong)

/-- 'redactorlaw14.SubstPlain': WHATEVER THE INPUT: true; the input reads as it did. -/
def substPlainSpec : ChangeSpec := { name := "substPlain", fn := fun _ => fun
  | [d1, d2] => { results := [.lit (.bool true)], args := [d1, d2] }
  | _ => none }
def substPlainRow : OpenClaim := { program := "ytfgccmgfkfhfcaa", sum := "5193cff056fc2e7c1514ebefc0548ac437058f6a5efdd410da888799321fa688", func := "redactor/redactorlaw14.SubstPlain", spec := "substPlain", apart := false }
def SubstPlainSaid : Prop := substPlainRow.holds Try.pinned (OpenSpec.ofChange substPlainSpec)

/-- ITS FALSE NEIGHBOUR: 'it returns false'. Refute it at one input. -/
def substPlainWrong : ChangeSpec := { name := "substPlain", fn := fun _ => fun
  | [d1, d2] => { results := [.lit (.bool false)], args := [d1, d2] }
  | _ => none }
def SubstPlainWrongFalsely : Prop := substPlainRow.holds Try.pinned (OpenSpec.ofChange substPlainWrong)

/- THE SECOND FORM. 'bulk': how many values and letters a reading holds, each counted each time it is reached (what is shared counts as often as it is met; a slice's spare places count too). A statement '..UptoSaid' is the law's where the arguments, and the package variables that the reading takes, are together of bulk at most 1048576: NARROWER than '..Said'. Prove '..Said' where nothing that the law and all that it calls make is longer than what came in: it says more and counts as full. Else prove '..UptoSaid'. A law counts once. -/
mutual
def uptoBulk {H : Type} : DataW H → Nat
  | .lit (.string bytes) => bytes.length + 1
  | .lit _ => 1
  | .nil => 1
  | .ptr d => uptoBulk d + 1
  | .slice elems spare => uptoBulkAll elems + uptoBulkAll spare + 1
  | .agg parts => uptoBulkAll parts + 1
  | .iface _ d => uptoBulk d + 1
  | .map entries => uptoBulkEntries entries + 1
  | .held _ => 1
def uptoBulkAll {H : Type} : List (DataW H) → Nat
  | [] => 0
  | d :: r => uptoBulk d + uptoBulkAll r
def uptoBulkEntries {H : Type} : List (Lit × DataW H) → Nat
  | [] => 0
  | x :: r => uptoBulkEntry x + uptoBulkEntries r
def uptoBulkEntry {H : Type} : Lit × DataW H → Nat
  | (.string bytes, d) => bytes.length + uptoBulk d + 1
  | (_, d) => uptoBulk d + 1
 end
def uptoSmall : (H : Type) → List (DataW H) → Bool := fun _ ds => decide (uptoBulkAll ds ≤ 1048576)
def OpenSpec.upto (s : _root_.Go.ChangeSpec) : _root_.Go.OpenSpec := { _root_.Go.OpenSpec.ofChange s with cond := some uptoSmall }

/-- 'redactorlaw14.SubstTurns', WHERE WHAT IT READS IS OF BULK AT MOST 1048576: true; the input reads as it did. -/
def substTurnsUptoRow : OpenClaim := { program := "ytfgccmgfkfhfcaa", sum := "5193cff056fc2e7c1514ebefc0548ac437058f6a5efdd410da888799321fa688", func := "redactor/redactorlaw14.SubstTurns", spec := "substTurns", apart := false, narrowed := true }
def SubstTurnsUptoSaid : Prop := substTurnsUptoRow.holds Try.pinned (OpenSpec.upto substTurnsSpec)

/-- 'redactorlaw14.SubstMaps', WHERE WHAT IT READS IS OF BULK AT MOST 1048576: true; the input reads as it did. -/
def substMapsUptoRow : OpenClaim := { program := "ytfgccmgfkfhfcaa", sum := "5193cff056fc2e7c1514ebefc0548ac437058f6a5efdd410da888799321fa688", func := "redactor/redactorlaw14.SubstMaps", spec := "substMaps", apart := false, narrowed := true }
def SubstMapsUptoSaid : Prop := substMapsUptoRow.holds Try.pinned (OpenSpec.upto substMapsSpec)

/-- 'redactorlaw14.SubstAll', WHERE WHAT IT READS IS OF BULK AT MOST 1048576: true; the input reads as it did. -/
def substAllUptoRow : OpenClaim := { program := "ytfgccmgfkfhfcaa", sum := "5193cff056fc2e7c1514ebefc0548ac437058f6a5efdd410da888799321fa688", func := "redactor/redactorlaw14.SubstAll", spec := "substAll", apart := false, narrowed := true }
def SubstAllUptoSaid : Prop := substAllUptoRow.holds Try.pinned (OpenSpec.upto substAllSpec)

/-- 'redactorlaw14.SubstEnds', WHERE WHAT IT READS IS OF BULK AT MOST 1048576: true; the input reads as it did. -/
def substEndsUptoRow : OpenClaim := { program := "ytfgccmgfkfhfcaa", sum := "5193cff056fc2e7c1514ebefc0548ac437058f6a5efdd410da888799321fa688", func := "redactor/redactorlaw14.SubstEnds", spec := "substEnds", apart := false, narrowed := true }
def SubstEndsUptoSaid : Prop := substEndsUptoRow.holds Try.pinned (OpenSpec.upto substEndsSpec)

/-- 'redactorlaw14.SubstExpands', WHERE WHAT IT READS IS OF BULK AT MOST 1048576: true; the input reads as it did. -/
def substExpandsUptoRow : OpenClaim := { program := "ytfgccmgfkfhfcaa", sum := "5193cff056fc2e7c1514ebefc0548ac437058f6a5efdd410da888799321fa688", func := "redactor/redactorlaw14.SubstExpands", spec := "substExpands", apart := false, narrowed := true }
def SubstExpandsUptoSaid : Prop := substExpandsUptoRow.holds Try.pinned (OpenSpec.upto substExpandsSpec)

/-- 'redactorlaw14.SubstPlain', WHERE WHAT IT READS IS OF BULK AT MOST 1048576: true; the input reads as it did. -/
def substPlainUptoRow : OpenClaim := { program := "ytfgccmgfkfhfcaa", sum := "5193cff056fc2e7c1514ebefc0548ac437058f6a5efdd410da888799321fa688", func := "redactor/redactorlaw14.SubstPlain", spec := "substPlain", apart := false, narrowed := true }
def SubstPlainUptoSaid : Prop := substPlainUptoRow.holds Try.pinned (OpenSpec.upto substPlainSpec)

end Rows
end Go.Proofs.Ytfgccmgfkfhfcaa
