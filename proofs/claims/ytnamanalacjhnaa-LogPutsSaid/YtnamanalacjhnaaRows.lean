/-
  No cell of these rows narrows 'for every input' (looked for: loops, veiled, ifaces, maps, wideKeys, modest, calm, conditions, laid).
  DERIVED. THE GIVEN ROWS OF THIS SEAT. 3 by the template 'for every input the law returns true; each argument reads behind the call as it read before'; 0 by the template 'total and deterministic' (their statements: YtnamanalacjhnaaTotals.lean).
  GIVEN WITH THE SEED: the statements are not yours to turn. If you find one false, say at which input.
  Laid BY PROGRAM, IN A SANDBOX (cutbox-rows.mjs): the forced cells as the released guide's own fill.sh prints them over the translation 8ff7628f1030c082… (all of the seat's roots in one cut). By AI agents, Wed Nov 11 2026. No macro, syntax, notation, axiom, sorry.
-/
import Derived.Test.YtnamanalacjhnaaChecked
import GoSem.Claim
import GoSem.ClaimJoined
import GoSem.ClaimMapViews
import Derived.JoinedTies
import Derived.KernelRfl
namespace Go.Proofs.Ytnamanalacjhnaa
/- THE CELL 'sum', in the pinned program and in every row, IS THE sha256 OF THE DUMP (.gsa) THAT YtnamanalacjhnaaProg.lean LOADS. Nothing in Lean hashes anything: it is a label: what it is worth is what the hold of that sum in a sandbox is worth. -/
noncomputable def Try.pinned : Pinned := { name := "ytnamanalacjhnaa", sum := "8ff7628f1030c0824c97986904eb964e8377c3c3509efe10edc76469711577cf", checked := Try.checked }
namespace Rows
def none {H : Type} : Left H := { results := [], args := [] }

/-- 'screelaw7.LogNames': WHATEVER THE INPUT: true; the input reads as it did. -/
def logNamesSpec : ChangeSpec := { name := "logNames", fn := fun _ => fun
  | [] => { results := [.lit (.bool true)], args := [] }
  | _ => none }
def logNamesRow : OpenClaim := { program := "ytnamanalacjhnaa", sum := "8ff7628f1030c0824c97986904eb964e8377c3c3509efe10edc76469711577cf", func := "scree/screelaw7.LogNames", spec := "logNames", apart := false }
def LogNamesSaid : Prop := logNamesRow.holds Try.pinned (OpenSpec.ofChange logNamesSpec)

/-- ITS FALSE NEIGHBOUR: 'it returns false'. Refute it at one input. -/
def logNamesWrong : ChangeSpec := { name := "logNames", fn := fun _ => fun
  | [] => { results := [.lit (.bool false)], args := [] }
  | _ => none }
def LogNamesWrongFalsely : Prop := logNamesRow.holds Try.pinned (OpenSpec.ofChange logNamesWrong)

/-- 'screelaw7.LogPuts': WHATEVER THE INPUT: true; the input reads as it did. -/
def logPutsSpec : ChangeSpec := { name := "logPuts", fn := fun _ => fun
  | [d1, d2] => { results := [.lit (.bool true)], args := [d1, d2] }
  | _ => none }
def logPutsRow : OpenClaim := { program := "ytnamanalacjhnaa", sum := "8ff7628f1030c0824c97986904eb964e8377c3c3509efe10edc76469711577cf", func := "scree/screelaw7.LogPuts", spec := "logPuts", apart := false }
def LogPutsSaid : Prop := logPutsRow.holds Try.pinned (OpenSpec.ofChange logPutsSpec)

/-- ITS FALSE NEIGHBOUR: 'it returns false'. Refute it at one input. -/
def logPutsWrong : ChangeSpec := { name := "logPuts", fn := fun _ => fun
  | [d1, d2] => { results := [.lit (.bool false)], args := [d1, d2] }
  | _ => none }
def LogPutsWrongFalsely : Prop := logPutsRow.holds Try.pinned (OpenSpec.ofChange logPutsWrong)

/-- 'screelaw7.LogGets': WHATEVER THE INPUT: true; the input reads as it did. -/
def logGetsSpec : ChangeSpec := { name := "logGets", fn := fun _ => fun
  | [d] => { results := [.lit (.bool true)], args := [d] }
  | _ => none }
def logGetsRow : OpenClaim := { program := "ytnamanalacjhnaa", sum := "8ff7628f1030c0824c97986904eb964e8377c3c3509efe10edc76469711577cf", func := "scree/screelaw7.LogGets", spec := "logGets", apart := false }
def LogGetsSaid : Prop := logGetsRow.holds Try.pinned (OpenSpec.ofChange logGetsSpec)

/-- ITS FALSE NEIGHBOUR: 'it returns false'. Refute it at one input. -/
def logGetsWrong : ChangeSpec := { name := "logGets", fn := fun _ => fun
  | [d] => { results := [.lit (.bool false)], args := [d] }
  | _ => none }
def LogGetsWrongFalsely : Prop := logGetsRow.holds Try.pinned (OpenSpec.ofChange logGetsWrong)

/- THE SECOND FORM. 'bulk': how many values and letters a reading holds, each counted each time it is reached (what is shared counts as often as it is met; a slice's spare places count too). A statement '..UptoSaid' is the law's where the arguments, and the package variables that the reading takes, are together of bulk at most 1048576: NARROWER than '..Said'. Prove '..Said' where nothing that the law and all that it calls make is longer than what came in: it says more and counts as full. Else prove '..UptoSaid'. A law counts once. -/
mutual
def uptoBulk {H : Type} : DataW H → Nat
  | .lit (.string bytes) => bytes.length + 1
  | .lit _ => 1
  | .nil => 1
  | .ptr d => uptoBulk d + 1
  | .slice elems spare => uptoBulkAll elems + uptoBulkAll spare + 1
  | .agg parts => uptoBulkAll parts + 1
  | .iface _ d => uptoBulk d + 1
  | .map entries => uptoBulkEntries entries + 1
  | .held _ => 1
def uptoBulkAll {H : Type} : List (DataW H) → Nat
  | [] => 0
  | d :: r => uptoBulk d + uptoBulkAll r
def uptoBulkEntries {H : Type} : List (Lit × DataW H) → Nat
  | [] => 0
  | x :: r => uptoBulkEntry x + uptoBulkEntries r
def uptoBulkEntry {H : Type} : Lit × DataW H → Nat
  | (.string bytes, d) => bytes.length + uptoBulk d + 1
  | (_, d) => uptoBulk d + 1
 end
def uptoSmall : (H : Type) → List (DataW H) → Bool := fun _ ds => decide (uptoBulkAll ds ≤ 1048576)
def OpenSpec.upto (s : _root_.Go.ChangeSpec) : _root_.Go.OpenSpec := { _root_.Go.OpenSpec.ofChange s with cond := some uptoSmall }

/-- 'screelaw7.LogNames', WHERE WHAT IT READS IS OF BULK AT MOST 1048576: true; the input reads as it did. -/
def logNamesUptoRow : OpenClaim := { program := "ytnamanalacjhnaa", sum := "8ff7628f1030c0824c97986904eb964e8377c3c3509efe10edc76469711577cf", func := "scree/screelaw7.LogNames", spec := "logNames", apart := false, narrowed := true }
def LogNamesUptoSaid : Prop := logNamesUptoRow.holds Try.pinned (OpenSpec.upto logNamesSpec)

/-- 'screelaw7.LogPuts', WHERE WHAT IT READS IS OF BULK AT MOST 1048576: true; the input reads as it did. -/
def logPutsUptoRow : OpenClaim := { program := "ytnamanalacjhnaa", sum := "8ff7628f1030c0824c97986904eb964e8377c3c3509efe10edc76469711577cf", func := "scree/screelaw7.LogPuts", spec := "logPuts", apart := false, narrowed := true }
def LogPutsUptoSaid : Prop := logPutsUptoRow.holds Try.pinned (OpenSpec.upto logPutsSpec)

/-- 'screelaw7.LogGets', WHERE WHAT IT READS IS OF BULK AT MOST 1048576: true; the input reads as it did. -/
def logGetsUptoRow : OpenClaim := { program := "ytnamanalacjhnaa", sum := "8ff7628f1030c0824c97986904eb964e8377c3c3509efe10edc76469711577cf", func := "scree/screelaw7.LogGets", spec := "logGets", apart := false, narrowed := true }
def LogGetsUptoSaid : Prop := logGetsUptoRow.holds Try.pinned (OpenSpec.upto logGetsSpec)

end Rows
end Go.Proofs.Ytnamanalacjhnaa
