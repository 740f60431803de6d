/-
  No cell of these rows narrows 'for every input' (looked for: loops, veiled, ifaces, maps, wideKeys, modest, calm, conditions, laid).
  DERIVED. THE GIVEN ROWS OF THIS SEAT. 3 by the template 'for every input the law returns true; each argument reads behind the call as it read before'; 0 by the template 'total and deterministic' (their statements: YtmehjdnncnlhgaaTotals.lean).
  GIVEN WITH THE SEED: the statements are not yours to turn. If you find one false, say at which input.
  Laid BY PROGRAM, IN A SANDBOX (cutbox-rows.mjs): the forced cells as the released guide's own fill.sh prints them over the translation 416ab723a6013d49… (all of the seat's roots in one cut). By AI agents, Wed Nov 11 2026. No macro, syntax, notation, axiom, sorry.
-/
import Derived.Test.YtmehjdnncnlhgaaChecked
import GoSem.Claim
import GoSem.ClaimJoined
import GoSem.ClaimMapViews
import Derived.JoinedTies
import Derived.KernelRfl
namespace Go.Proofs.Ytmehjdnncnlhgaa
/- THE CELL 'sum', in the pinned program and in every row, IS THE sha256 OF THE DUMP (.gsa) THAT YtmehjdnncnlhgaaProg.lean LOADS. Nothing in Lean hashes anything: it is a label: what it is worth is what the hold of that sum in a sandbox is worth. -/
noncomputable def Try.pinned : Pinned := { name := "ytmehjdnncnlhgaa", sum := "416ab723a6013d49274f021cec6b2c71b0d4a79c9b7d0b5846a94671c1f1bbc0", checked := Try.checked }
namespace Rows
def none {H : Type} : Left H := { results := [], args := [] }

/-- 'screelaw7.LogNames': WHATEVER THE INPUT: true; the input reads as it did. -/
def logNamesSpec : ChangeSpec := { name := "logNames", fn := fun _ => fun
  | [] => { results := [.lit (.bool true)], args := [] }
  | _ => none }
def logNamesRow : OpenClaim := { program := "ytmehjdnncnlhgaa", sum := "416ab723a6013d49274f021cec6b2c71b0d4a79c9b7d0b5846a94671c1f1bbc0", func := "scree/screelaw7.LogNames", spec := "logNames", apart := false }
def LogNamesSaid : Prop := logNamesRow.holds Try.pinned (OpenSpec.ofChange logNamesSpec)

/-- ITS FALSE NEIGHBOUR: 'it returns false'. Refute it at one input. -/
def logNamesWrong : ChangeSpec := { name := "logNames", fn := fun _ => fun
  | [] => { results := [.lit (.bool false)], args := [] }
  | _ => none }
def LogNamesWrongFalsely : Prop := logNamesRow.holds Try.pinned (OpenSpec.ofChange logNamesWrong)

/-- 'screelaw9.BlockNames': WHATEVER THE INPUT: true; the input reads as it did. -/
def blockNamesSpec : ChangeSpec := { name := "blockNames", fn := fun _ => fun
  | [] => { results := [.lit (.bool true)], args := [] }
  | _ => none }
def blockNamesRow : OpenClaim := { program := "ytmehjdnncnlhgaa", sum := "416ab723a6013d49274f021cec6b2c71b0d4a79c9b7d0b5846a94671c1f1bbc0", func := "scree/screelaw9.BlockNames", spec := "blockNames", apart := false }
def BlockNamesSaid : Prop := blockNamesRow.holds Try.pinned (OpenSpec.ofChange blockNamesSpec)

/-- ITS FALSE NEIGHBOUR: 'it returns false'. Refute it at one input. -/
def blockNamesWrong : ChangeSpec := { name := "blockNames", fn := fun _ => fun
  | [] => { results := [.lit (.bool false)], args := [] }
  | _ => none }
def BlockNamesWrongFalsely : Prop := blockNamesRow.holds Try.pinned (OpenSpec.ofChange blockNamesWrong)

/-- 'screelaw10.TableNames': WHATEVER THE INPUT: true; the input reads as it did. -/
def tableNamesSpec : ChangeSpec := { name := "tableNames", fn := fun _ => fun
  | [] => { results := [.lit (.bool true)], args := [] }
  | _ => none }
def tableNamesRow : OpenClaim := { program := "ytmehjdnncnlhgaa", sum := "416ab723a6013d49274f021cec6b2c71b0d4a79c9b7d0b5846a94671c1f1bbc0", func := "scree/screelaw10.TableNames", spec := "tableNames", apart := false }
def TableNamesSaid : Prop := tableNamesRow.holds Try.pinned (OpenSpec.ofChange tableNamesSpec)

/-- ITS FALSE NEIGHBOUR: 'it returns false'. Refute it at one input. -/
def tableNamesWrong : ChangeSpec := { name := "tableNames", fn := fun _ => fun
  | [] => { results := [.lit (.bool false)], args := [] }
  | _ => none }
def TableNamesWrongFalsely : Prop := tableNamesRow.holds Try.pinned (OpenSpec.ofChange tableNamesWrong)

/- THE SECOND FORM. 'bulk': how many values and letters a reading holds, each counted each time it is reached (what is shared counts as often as it is met; a slice's spare places count too). A statement '..UptoSaid' is the law's where the arguments, and the package variables that the reading takes, are together of bulk at most 1048576: NARROWER than '..Said'. Prove '..Said' where nothing that the law and all that it calls make is longer than what came in: it says more and counts as full. Else prove '..UptoSaid'. A law counts once. -/
mutual
def uptoBulk {H : Type} : DataW H → Nat
  | .lit (.string bytes) => bytes.length + 1
  | .lit _ => 1
  | .nil => 1
  | .ptr d => uptoBulk d + 1
  | .slice elems spare => uptoBulkAll elems + uptoBulkAll spare + 1
  | .agg parts => uptoBulkAll parts + 1
  | .iface _ d => uptoBulk d + 1
  | .map entries => uptoBulkEntries entries + 1
  | .held _ => 1
def uptoBulkAll {H : Type} : List (DataW H) → Nat
  | [] => 0
  | d :: r => uptoBulk d + uptoBulkAll r
def uptoBulkEntries {H : Type} : List (Lit × DataW H) → Nat
  | [] => 0
  | x :: r => uptoBulkEntry x + uptoBulkEntries r
def uptoBulkEntry {H : Type} : Lit × DataW H → Nat
  | (.string bytes, d) => bytes.length + uptoBulk d + 1
  | (_, d) => uptoBulk d + 1
 end
def uptoSmall : (H : Type) → List (DataW H) → Bool := fun _ ds => decide (uptoBulkAll ds ≤ 1048576)
def OpenSpec.upto (s : _root_.Go.ChangeSpec) : _root_.Go.OpenSpec := { _root_.Go.OpenSpec.ofChange s with cond := some uptoSmall }

/-- 'screelaw7.LogNames', WHERE WHAT IT READS IS OF BULK AT MOST 1048576: true; the input reads as it did. -/
def logNamesUptoRow : OpenClaim := { program := "ytmehjdnncnlhgaa", sum := "416ab723a6013d49274f021cec6b2c71b0d4a79c9b7d0b5846a94671c1f1bbc0", func := "scree/screelaw7.LogNames", spec := "logNames", apart := false, narrowed := true }
def LogNamesUptoSaid : Prop := logNamesUptoRow.holds Try.pinned (OpenSpec.upto logNamesSpec)

/-- 'screelaw9.BlockNames', WHERE WHAT IT READS IS OF BULK AT MOST 1048576: true; the input reads as it did. -/
def blockNamesUptoRow : OpenClaim := { program := "ytmehjdnncnlhgaa", sum := "416ab723a6013d49274f021cec6b2c71b0d4a79c9b7d0b5846a94671c1f1bbc0", func := "scree/screelaw9.BlockNames", spec := "blockNames", apart := false, narrowed := true }
def BlockNamesUptoSaid : Prop := blockNamesUptoRow.holds Try.pinned (OpenSpec.upto blockNamesSpec)

/-- 'screelaw10.TableNames', WHERE WHAT IT READS IS OF BULK AT MOST 1048576: true; the input reads as it did. -/
def tableNamesUptoRow : OpenClaim := { program := "ytmehjdnncnlhgaa", sum := "416ab723a6013d49274f021cec6b2c71b0d4a79c9b7d0b5846a94671c1f1bbc0", func := "scree/screelaw10.TableNames", spec := "tableNames", apart := false, narrowed := true }
def TableNamesUptoSaid : Prop := tableNamesUptoRow.holds Try.pinned (OpenSpec.upto tableNamesSpec)

end Rows
end Go.Proofs.Ytmehjdnncnlhgaa
