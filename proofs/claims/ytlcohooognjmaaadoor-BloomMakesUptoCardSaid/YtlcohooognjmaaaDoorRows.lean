/-
  NARROWER THAN 'FOR EVERY INPUT', by the rows' own cells (each row's printed sentence says how): BloomMakes: laid · BloomMays: laid · BloomHolds: laid · BloomOrder: laid.
  DERIVED. THE GIVEN ROWS OF THIS SEAT. 4 by the template 'for every input the law returns true; each argument reads behind the call as it read before'; 0 by the template 'total and deterministic' (their statements: YtlcohooognjmaaaDoorTotals.lean).
  GIVEN WITH THE SEED: the statements are not yours to turn. If you find one false, say at which input.
  Laid BY PROGRAM, IN A SANDBOX (cutbox-rows.mjs): the forced cells as the released guide's own fill.sh prints them over the translation b832e2f69ed58d2c… (all of the seat's roots in one cut). By AI agents, Wed Nov 11 2026. No macro, syntax, notation, axiom, sorry.
-/
import Derived.Test.YtlcohooognjmaaaDoorChecked
import GoSem.Claim
import GoSem.ClaimJoined
import GoSem.ClaimMapViews
import Derived.JoinedTies
import Derived.KernelRfl
namespace Go.Proofs.YtlcohooognjmaaaDoor
/- THE CELL 'sum', in the pinned program and in every row, IS THE sha256 OF THE DUMP (.gsa) THAT YtlcohooognjmaaaDoorProg.lean LOADS. Nothing in Lean hashes anything: it is a label: what it is worth is what the hold of that sum in a sandbox is worth. -/
noncomputable def Tryd.pinned : Pinned := { name := "ytlcohooognjmaaadoor", sum := "b832e2f69ed58d2caf88fa245c9226a34feaae2ea21caabd757ce8fb9f367acf", checked := Tryd.checked }
namespace Rows
def none {H : Type} : Left H := { results := [], args := [] }

/- WHAT THE LISTED PACKAGE-LEVEL VARIABLES READ AS WHEN THE CALL BEGINS. Each datum BY PROGRAM (the guide's laid-datum.mjs) off the statement by which the dump's own 'gosem.cut.vars' lays the variable. In a bare row this is a premise. The card (YtlcohooognjmaaaDoorCards.lean) ties it to the program's text. -/
def laid_scree_codec_nibbles {H : Type} : DataW H := .agg [.lit (.int .u32 0), .lit (.int .u32 274646895), .lit (.int .u32 549293790), .lit (.int .u32 820201905), .lit (.int .u32 1098587580), .lit (.int .u32 1361435347), .lit (.int .u32 1640403810), .lit (.int .u32 1905808397), .lit (.int .u32 2197175160), .lit (.int .u32 2460548119), .lit (.int .u32 2722870694), .lit (.int .u32 2987750089), .lit (.int .u32 3280807620), .lit (.int .u32 3553878443), .lit (.int .u32 3811616794), .lit (.int .u32 4084100981)]

/-- 'screelaw8.BloomMakes': WHATEVER THE INPUT: true; the input reads as it did. -/
def bloomMakesSpec : ChangeSpec := { name := "bloomMakes", fn := fun _ => fun
  | [d1, d2] => { results := [.lit (.bool true)], args := [d1, d2] }
  | _ => none }
def bloomMakesRow : OpenClaim := { program := "ytlcohooognjmaaadoor", sum := "b832e2f69ed58d2caf88fa245c9226a34feaae2ea21caabd757ce8fb9f367acf", func := "scree/screelaw8.BloomMakes", spec := "bloomMakes", named := ["scree/codec.nibbles"], apart := false, laid := [("scree/codec.nibbles", laid_scree_codec_nibbles)] }
def BloomMakesSaid : Prop := bloomMakesRow.holds Tryd.pinned (OpenSpec.ofChange bloomMakesSpec)

/-- ITS FALSE NEIGHBOUR: 'it returns false'. Refute it at one input. -/
def bloomMakesWrong : ChangeSpec := { name := "bloomMakes", fn := fun _ => fun
  | [d1, d2] => { results := [.lit (.bool false)], args := [d1, d2] }
  | _ => none }
def BloomMakesWrongFalsely : Prop := bloomMakesRow.holds Tryd.pinned (OpenSpec.ofChange bloomMakesWrong)

/-- 'screelaw8.BloomMays': WHATEVER THE INPUT: true; the input reads as it did. -/
def bloomMaysSpec : ChangeSpec := { name := "bloomMays", fn := fun _ => fun
  | [d1, d2] => { results := [.lit (.bool true)], args := [d1, d2] }
  | _ => none }
def bloomMaysRow : OpenClaim := { program := "ytlcohooognjmaaadoor", sum := "b832e2f69ed58d2caf88fa245c9226a34feaae2ea21caabd757ce8fb9f367acf", func := "scree/screelaw8.BloomMays", spec := "bloomMays", named := ["scree/codec.nibbles"], apart := false, laid := [("scree/codec.nibbles", laid_scree_codec_nibbles)] }
def BloomMaysSaid : Prop := bloomMaysRow.holds Tryd.pinned (OpenSpec.ofChange bloomMaysSpec)

/-- ITS FALSE NEIGHBOUR: 'it returns false'. Refute it at one input. -/
def bloomMaysWrong : ChangeSpec := { name := "bloomMays", fn := fun _ => fun
  | [d1, d2] => { results := [.lit (.bool false)], args := [d1, d2] }
  | _ => none }
def BloomMaysWrongFalsely : Prop := bloomMaysRow.holds Tryd.pinned (OpenSpec.ofChange bloomMaysWrong)

/-- 'screelaw8.BloomHolds': WHATEVER THE INPUT: true; the input reads as it did. -/
def bloomHoldsSpec : ChangeSpec := { name := "bloomHolds", fn := fun _ => fun
  | [d1, d2] => { results := [.lit (.bool true)], args := [d1, d2] }
  | _ => none }
def bloomHoldsRow : OpenClaim := { program := "ytlcohooognjmaaadoor", sum := "b832e2f69ed58d2caf88fa245c9226a34feaae2ea21caabd757ce8fb9f367acf", func := "scree/screelaw8.BloomHolds", spec := "bloomHolds", named := ["scree/codec.nibbles"], apart := false, laid := [("scree/codec.nibbles", laid_scree_codec_nibbles)] }
def BloomHoldsSaid : Prop := bloomHoldsRow.holds Tryd.pinned (OpenSpec.ofChange bloomHoldsSpec)

/-- ITS FALSE NEIGHBOUR: 'it returns false'. Refute it at one input. -/
def bloomHoldsWrong : ChangeSpec := { name := "bloomHolds", fn := fun _ => fun
  | [d1, d2] => { results := [.lit (.bool false)], args := [d1, d2] }
  | _ => none }
def BloomHoldsWrongFalsely : Prop := bloomHoldsRow.holds Tryd.pinned (OpenSpec.ofChange bloomHoldsWrong)

/-- 'screelaw8.BloomOrder': WHATEVER THE INPUT: true; the input reads as it did. -/
def bloomOrderSpec : ChangeSpec := { name := "bloomOrder", fn := fun _ => fun
  | [d1, d2, d3, d4] => { results := [.lit (.bool true)], args := [d1, d2, d3, d4] }
  | _ => none }
def bloomOrderRow : OpenClaim := { program := "ytlcohooognjmaaadoor", sum := "b832e2f69ed58d2caf88fa245c9226a34feaae2ea21caabd757ce8fb9f367acf", func := "scree/screelaw8.BloomOrder", spec := "bloomOrder", named := ["scree/codec.nibbles"], apart := false, laid := [("scree/codec.nibbles", laid_scree_codec_nibbles)] }
def BloomOrderSaid : Prop := bloomOrderRow.holds Tryd.pinned (OpenSpec.ofChange bloomOrderSpec)

/-- ITS FALSE NEIGHBOUR: 'it returns false'. Refute it at one input. -/
def bloomOrderWrong : ChangeSpec := { name := "bloomOrder", fn := fun _ => fun
  | [d1, d2, d3, d4] => { results := [.lit (.bool false)], args := [d1, d2, d3, d4] }
  | _ => none }
def BloomOrderWrongFalsely : Prop := bloomOrderRow.holds Tryd.pinned (OpenSpec.ofChange bloomOrderWrong)

/- THE SECOND FORM. 'bulk': how many values and letters a reading holds, each counted each time it is reached (what is shared counts as often as it is met; a slice's spare places count too). A statement '..UptoSaid' is the law's where the arguments, and the package variables that the reading takes, are together of bulk at most 1048576: NARROWER than '..Said'. Prove '..Said' where nothing that the law and all that it calls make is longer than what came in: it says more and counts as full. Else prove '..UptoSaid'. A law counts once. -/
mutual
def uptoBulk {H : Type} : DataW H → Nat
  | .lit (.string bytes) => bytes.length + 1
  | .lit _ => 1
  | .nil => 1
  | .ptr d => uptoBulk d + 1
  | .slice elems spare => uptoBulkAll elems + uptoBulkAll spare + 1
  | .agg parts => uptoBulkAll parts + 1
  | .iface _ d => uptoBulk d + 1
  | .map entries => uptoBulkEntries entries + 1
  | .held _ => 1
def uptoBulkAll {H : Type} : List (DataW H) → Nat
  | [] => 0
  | d :: r => uptoBulk d + uptoBulkAll r
def uptoBulkEntries {H : Type} : List (Lit × DataW H) → Nat
  | [] => 0
  | x :: r => uptoBulkEntry x + uptoBulkEntries r
def uptoBulkEntry {H : Type} : Lit × DataW H → Nat
  | (.string bytes, d) => bytes.length + uptoBulk d + 1
  | (_, d) => uptoBulk d + 1
 end
def uptoSmall : (H : Type) → List (DataW H) → Bool := fun _ ds => decide (uptoBulkAll ds ≤ 1048576)
def OpenSpec.upto (s : _root_.Go.ChangeSpec) : _root_.Go.OpenSpec := { _root_.Go.OpenSpec.ofChange s with cond := some uptoSmall }

/-- 'screelaw8.BloomMakes', WHERE WHAT IT READS IS OF BULK AT MOST 1048576: true; the input reads as it did. -/
def bloomMakesUptoRow : OpenClaim := { program := "ytlcohooognjmaaadoor", sum := "b832e2f69ed58d2caf88fa245c9226a34feaae2ea21caabd757ce8fb9f367acf", func := "scree/screelaw8.BloomMakes", spec := "bloomMakes", named := ["scree/codec.nibbles"], apart := false, laid := [("scree/codec.nibbles", laid_scree_codec_nibbles)], narrowed := true }
def BloomMakesUptoSaid : Prop := bloomMakesUptoRow.holds Tryd.pinned (OpenSpec.upto bloomMakesSpec)

/-- 'screelaw8.BloomMays', WHERE WHAT IT READS IS OF BULK AT MOST 1048576: true; the input reads as it did. -/
def bloomMaysUptoRow : OpenClaim := { program := "ytlcohooognjmaaadoor", sum := "b832e2f69ed58d2caf88fa245c9226a34feaae2ea21caabd757ce8fb9f367acf", func := "scree/screelaw8.BloomMays", spec := "bloomMays", named := ["scree/codec.nibbles"], apart := false, laid := [("scree/codec.nibbles", laid_scree_codec_nibbles)], narrowed := true }
def BloomMaysUptoSaid : Prop := bloomMaysUptoRow.holds Tryd.pinned (OpenSpec.upto bloomMaysSpec)

/-- 'screelaw8.BloomHolds', WHERE WHAT IT READS IS OF BULK AT MOST 1048576: true; the input reads as it did. -/
def bloomHoldsUptoRow : OpenClaim := { program := "ytlcohooognjmaaadoor", sum := "b832e2f69ed58d2caf88fa245c9226a34feaae2ea21caabd757ce8fb9f367acf", func := "scree/screelaw8.BloomHolds", spec := "bloomHolds", named := ["scree/codec.nibbles"], apart := false, laid := [("scree/codec.nibbles", laid_scree_codec_nibbles)], narrowed := true }
def BloomHoldsUptoSaid : Prop := bloomHoldsUptoRow.holds Tryd.pinned (OpenSpec.upto bloomHoldsSpec)

/-- 'screelaw8.BloomOrder', WHERE WHAT IT READS IS OF BULK AT MOST 1048576: true; the input reads as it did. -/
def bloomOrderUptoRow : OpenClaim := { program := "ytlcohooognjmaaadoor", sum := "b832e2f69ed58d2caf88fa245c9226a34feaae2ea21caabd757ce8fb9f367acf", func := "scree/screelaw8.BloomOrder", spec := "bloomOrder", named := ["scree/codec.nibbles"], apart := false, laid := [("scree/codec.nibbles", laid_scree_codec_nibbles)], narrowed := true }
def BloomOrderUptoSaid : Prop := bloomOrderUptoRow.holds Tryd.pinned (OpenSpec.upto bloomOrderSpec)

end Rows
end Go.Proofs.YtlcohooognjmaaaDoor
