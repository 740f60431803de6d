/-
  No cell of these rows narrows 'for every input' (looked for: loops, veiled, ifaces, maps, wideKeys, modest, calm, conditions, laid).
  DERIVED. THE GIVEN ROWS OF THIS SEAT. 3 by the template 'for every input the law returns true; each argument reads behind the call as it read before'; 0 by the template 'total and deterministic' (their statements: YtipefhadafildaaTotals.lean).
  GIVEN WITH THE SEED: the statements are not yours to turn. If you find one false, say at which input.
  Laid BY PROGRAM, IN A SANDBOX (cutbox-rows.mjs): the forced cells as the released guide's own fill.sh prints them over the translation 4cdac48e1ace5c84… (all of the seat's roots in one cut). By AI agents, Wed Nov 11 2026. No macro, syntax, notation, axiom, sorry.
-/
import Derived.Test.YtipefhadafildaaChecked
import GoSem.Claim
import GoSem.ClaimJoined
import GoSem.ClaimMapViews
import Derived.JoinedTies
import Derived.KernelRfl
namespace Go.Proofs.Ytipefhadafildaa
/- THE CELL 'sum', in the pinned program and in every row, IS THE sha256 OF THE DUMP (.gsa) THAT YtipefhadafildaaProg.lean LOADS. Nothing in Lean hashes anything: it is a label: what it is worth is what the hold of that sum in a sandbox is worth. -/
noncomputable def Try.pinned : Pinned := { name := "ytipefhadafildaa", sum := "4cdac48e1ace5c84c8bc26f11b51235836d89ef97a0483868efa9bea7d132956", checked := Try.checked }
namespace Rows
def none {H : Type} : Left H := { results := [], args := [] }

/-- 'screelaw2.CodecNames': WHATEVER THE INPUT: true; the input reads as it did. -/
def codecNamesSpec : ChangeSpec := { name := "codecNames", fn := fun _ => fun
  | [] => { results := [.lit (.bool true)], args := [] }
  | _ => none }
def codecNamesRow : OpenClaim := { program := "ytipefhadafildaa", sum := "4cdac48e1ace5c84c8bc26f11b51235836d89ef97a0483868efa9bea7d132956", func := "scree/screelaw2.CodecNames", spec := "codecNames", apart := false }
def CodecNamesSaid : Prop := codecNamesRow.holds Try.pinned (OpenSpec.ofChange codecNamesSpec)

/-- ITS FALSE NEIGHBOUR: 'it returns false'. Refute it at one input. -/
def codecNamesWrong : ChangeSpec := { name := "codecNames", fn := fun _ => fun
  | [] => { results := [.lit (.bool false)], args := [] }
  | _ => none }
def CodecNamesWrongFalsely : Prop := codecNamesRow.holds Try.pinned (OpenSpec.ofChange codecNamesWrong)

/-- 'screelaw2.CodecUints': WHATEVER THE INPUT: true; the input reads as it did. -/
def codecUintsSpec : ChangeSpec := { name := "codecUints", fn := fun _ => fun
  | [d1, d2] => { results := [.lit (.bool true)], args := [d1, d2] }
  | _ => none }
def codecUintsRow : OpenClaim := { program := "ytipefhadafildaa", sum := "4cdac48e1ace5c84c8bc26f11b51235836d89ef97a0483868efa9bea7d132956", func := "scree/screelaw2.CodecUints", spec := "codecUints", apart := false }
def CodecUintsSaid : Prop := codecUintsRow.holds Try.pinned (OpenSpec.ofChange codecUintsSpec)

/-- ITS FALSE NEIGHBOUR: 'it returns false'. Refute it at one input. -/
def codecUintsWrong : ChangeSpec := { name := "codecUints", fn := fun _ => fun
  | [d1, d2] => { results := [.lit (.bool false)], args := [d1, d2] }
  | _ => none }
def CodecUintsWrongFalsely : Prop := codecUintsRow.holds Try.pinned (OpenSpec.ofChange codecUintsWrong)

/-- 'screelaw2.CodecTexts': WHATEVER THE INPUT: true; the input reads as it did. -/
def codecTextsSpec : ChangeSpec := { name := "codecTexts", fn := fun _ => fun
  | [d1, d2, d3] => { results := [.lit (.bool true)], args := [d1, d2, d3] }
  | _ => none }
def codecTextsRow : OpenClaim := { program := "ytipefhadafildaa", sum := "4cdac48e1ace5c84c8bc26f11b51235836d89ef97a0483868efa9bea7d132956", func := "scree/screelaw2.CodecTexts", spec := "codecTexts", apart := false }
def CodecTextsSaid : Prop := codecTextsRow.holds Try.pinned (OpenSpec.ofChange codecTextsSpec)

/-- ITS FALSE NEIGHBOUR: 'it returns false'. Refute it at one input. -/
def codecTextsWrong : ChangeSpec := { name := "codecTexts", fn := fun _ => fun
  | [d1, d2, d3] => { results := [.lit (.bool false)], args := [d1, d2, d3] }
  | _ => none }
def CodecTextsWrongFalsely : Prop := codecTextsRow.holds Try.pinned (OpenSpec.ofChange codecTextsWrong)

/- THE SECOND FORM. 'bulk': how many values and letters a reading holds, each counted each time it is reached (what is shared counts as often as it is met; a slice's spare places count too). A statement '..UptoSaid' is the law's where the arguments, and the package variables that the reading takes, are together of bulk at most 1048576: NARROWER than '..Said'. Prove '..Said' where nothing that the law and all that it calls make is longer than what came in: it says more and counts as full. Else prove '..UptoSaid'. A law counts once. -/
mutual
def uptoBulk {H : Type} : DataW H → Nat
  | .lit (.string bytes) => bytes.length + 1
  | .lit _ => 1
  | .nil => 1
  | .ptr d => uptoBulk d + 1
  | .slice elems spare => uptoBulkAll elems + uptoBulkAll spare + 1
  | .agg parts => uptoBulkAll parts + 1
  | .iface _ d => uptoBulk d + 1
  | .map entries => uptoBulkEntries entries + 1
  | .held _ => 1
def uptoBulkAll {H : Type} : List (DataW H) → Nat
  | [] => 0
  | d :: r => uptoBulk d + uptoBulkAll r
def uptoBulkEntries {H : Type} : List (Lit × DataW H) → Nat
  | [] => 0
  | x :: r => uptoBulkEntry x + uptoBulkEntries r
def uptoBulkEntry {H : Type} : Lit × DataW H → Nat
  | (.string bytes, d) => bytes.length + uptoBulk d + 1
  | (_, d) => uptoBulk d + 1
 end
def uptoSmall : (H : Type) → List (DataW H) → Bool := fun _ ds => decide (uptoBulkAll ds ≤ 1048576)
def OpenSpec.upto (s : _root_.Go.ChangeSpec) : _root_.Go.OpenSpec := { _root_.Go.OpenSpec.ofChange s with cond := some uptoSmall }

/-- 'screelaw2.CodecNames', WHERE WHAT IT READS IS OF BULK AT MOST 1048576: true; the input reads as it did. -/
def codecNamesUptoRow : OpenClaim := { program := "ytipefhadafildaa", sum := "4cdac48e1ace5c84c8bc26f11b51235836d89ef97a0483868efa9bea7d132956", func := "scree/screelaw2.CodecNames", spec := "codecNames", apart := false, narrowed := true }
def CodecNamesUptoSaid : Prop := codecNamesUptoRow.holds Try.pinned (OpenSpec.upto codecNamesSpec)

/-- 'screelaw2.CodecUints', WHERE WHAT IT READS IS OF BULK AT MOST 1048576: true; the input reads as it did. -/
def codecUintsUptoRow : OpenClaim := { program := "ytipefhadafildaa", sum := "4cdac48e1ace5c84c8bc26f11b51235836d89ef97a0483868efa9bea7d132956", func := "scree/screelaw2.CodecUints", spec := "codecUints", apart := false, narrowed := true }
def CodecUintsUptoSaid : Prop := codecUintsUptoRow.holds Try.pinned (OpenSpec.upto codecUintsSpec)

/-- 'screelaw2.CodecTexts', WHERE WHAT IT READS IS OF BULK AT MOST 1048576: true; the input reads as it did. -/
def codecTextsUptoRow : OpenClaim := { program := "ytipefhadafildaa", sum := "4cdac48e1ace5c84c8bc26f11b51235836d89ef97a0483868efa9bea7d132956", func := "scree/screelaw2.CodecTexts", spec := "codecTexts", apart := false, narrowed := true }
def CodecTextsUptoSaid : Prop := codecTextsUptoRow.holds Try.pinned (OpenSpec.upto codecTextsSpec)

end Rows
end Go.Proofs.Ytipefhadafildaa
