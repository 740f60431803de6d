/-
  NARROWER THAN 'FOR EVERY INPUT', by the rows' own cells (each row's printed sentence says how): BlockOpens: laid · BlockReads: laid · BlockTurns: laid · BlockBack: laid · BlockAgain: laid · BlockTurned: laid.
  DERIVED. THE GIVEN ROWS OF THIS SEAT. 6 by the template 'for every input the law returns true; each argument reads behind the call as it read before'; 0 by the template 'total and deterministic' (their statements: YtaonjmkfbfhanaaDoorTotals.lean).
  GIVEN WITH THE SEED: the statements are not yours to turn. If you find one false, say at which input.
  Laid BY PROGRAM, IN A SANDBOX (cutbox-rows.mjs): the forced cells as the released guide's own fill.sh prints them over the translation 80091820430e5ffd… (all of the seat's roots in one cut). By AI agents, Wed Nov 11 2026. No macro, syntax, notation, axiom, sorry.
-/
import Derived.Test.YtaonjmkfbfhanaaDoorChecked
import GoSem.Claim
import GoSem.ClaimJoined
import GoSem.ClaimMapViews
import Derived.JoinedTies
import Derived.KernelRfl
namespace Go.Proofs.YtaonjmkfbfhanaaDoor
/- THE CELL 'sum', in the pinned program and in every row, IS THE sha256 OF THE DUMP (.gsa) THAT YtaonjmkfbfhanaaDoorProg.lean LOADS. Nothing in Lean hashes anything: it is a label: what it is worth is what the hold of that sum in a sandbox is worth. -/
noncomputable def Tryd.pinned : Pinned := { name := "ytaonjmkfbfhanaadoor", sum := "80091820430e5ffd2c1d5b1a6a8717876b7a6aee85cef893dbbedbe081c5c8e5", checked := Tryd.checked }
namespace Rows
def none {H : Type} : Left H := { results := [], args := [] }

/- WHAT THE LISTED PACKAGE-LEVEL VARIABLES READ AS WHEN THE CALL BEGINS. Each datum BY PROGRAM (the guide's laid-datum.mjs) off the statement by which the dump's own 'gosem.cut.vars' lays the variable. In a bare row this is a premise. The card (YtaonjmkfbfhanaaDoorCards.lean) ties it to the program's text. -/
def laid_scree_codec_nibbles {H : Type} : DataW H := .agg [.lit (.int .u32 0), .lit (.int .u32 274646895), .lit (.int .u32 549293790), .lit (.int .u32 820201905), .lit (.int .u32 1098587580), .lit (.int .u32 1361435347), .lit (.int .u32 1640403810), .lit (.int .u32 1905808397), .lit (.int .u32 2197175160), .lit (.int .u32 2460548119), .lit (.int .u32 2722870694), .lit (.int .u32 2987750089), .lit (.int .u32 3280807620), .lit (.int .u32 3553878443), .lit (.int .u32 3811616794), .lit (.int .u32 4084100981)]

/-- 'screelaw9.BlockOpens': WHATEVER THE INPUT: true; the input reads as it did. -/
def blockOpensSpec : ChangeSpec := { name := "blockOpens", fn := fun _ => fun
  | [d1, d2, d3] => { results := [.lit (.bool true)], args := [d1, d2, d3] }
  | _ => none }
def blockOpensRow : OpenClaim := { program := "ytaonjmkfbfhanaadoor", sum := "80091820430e5ffd2c1d5b1a6a8717876b7a6aee85cef893dbbedbe081c5c8e5", func := "scree/screelaw9.BlockOpens", spec := "blockOpens", unfollowed := true, recurses := true, named := ["scree/codec.nibbles"], apart := false, laid := [("scree/codec.nibbles", laid_scree_codec_nibbles)] }
def BlockOpensSaid : Prop := blockOpensRow.holds Tryd.pinned (OpenSpec.ofChange blockOpensSpec)

/-- ITS FALSE NEIGHBOUR: 'it returns false'. Refute it at one input. -/
def blockOpensWrong : ChangeSpec := { name := "blockOpens", fn := fun _ => fun
  | [d1, d2, d3] => { results := [.lit (.bool false)], args := [d1, d2, d3] }
  | _ => none }
def BlockOpensWrongFalsely : Prop := blockOpensRow.holds Tryd.pinned (OpenSpec.ofChange blockOpensWrong)

/-- 'screelaw9.BlockReads': WHATEVER THE INPUT: true; the input reads as it did. -/
def blockReadsSpec : ChangeSpec := { name := "blockReads", fn := fun _ => fun
  | [d1, d2, d3, d4] => { results := [.lit (.bool true)], args := [d1, d2, d3, d4] }
  | _ => none }
def blockReadsRow : OpenClaim := { program := "ytaonjmkfbfhanaadoor", sum := "80091820430e5ffd2c1d5b1a6a8717876b7a6aee85cef893dbbedbe081c5c8e5", func := "scree/screelaw9.BlockReads", spec := "blockReads", unfollowed := true, recurses := true, named := ["scree/codec.nibbles"], apart := false, laid := [("scree/codec.nibbles", laid_scree_codec_nibbles)] }
def BlockReadsSaid : Prop := blockReadsRow.holds Tryd.pinned (OpenSpec.ofChange blockReadsSpec)

/-- ITS FALSE NEIGHBOUR: 'it returns false'. Refute it at one input. -/
def blockReadsWrong : ChangeSpec := { name := "blockReads", fn := fun _ => fun
  | [d1, d2, d3, d4] => { results := [.lit (.bool false)], args := [d1, d2, d3, d4] }
  | _ => none }
def BlockReadsWrongFalsely : Prop := blockReadsRow.holds Tryd.pinned (OpenSpec.ofChange blockReadsWrong)

/-- 'screelaw9.BlockTurns': WHATEVER THE INPUT: true; the input reads as it did. -/
def blockTurnsSpec : ChangeSpec := { name := "blockTurns", fn := fun _ => fun
  | [d1, d2] => { results := [.lit (.bool true)], args := [d1, d2] }
  | _ => none }
def blockTurnsRow : OpenClaim := { program := "ytaonjmkfbfhanaadoor", sum := "80091820430e5ffd2c1d5b1a6a8717876b7a6aee85cef893dbbedbe081c5c8e5", func := "scree/screelaw9.BlockTurns", spec := "blockTurns", unfollowed := true, recurses := true, named := ["scree/codec.nibbles"], apart := false, laid := [("scree/codec.nibbles", laid_scree_codec_nibbles)] }
def BlockTurnsSaid : Prop := blockTurnsRow.holds Tryd.pinned (OpenSpec.ofChange blockTurnsSpec)

/-- ITS FALSE NEIGHBOUR: 'it returns false'. Refute it at one input. -/
def blockTurnsWrong : ChangeSpec := { name := "blockTurns", fn := fun _ => fun
  | [d1, d2] => { results := [.lit (.bool false)], args := [d1, d2] }
  | _ => none }
def BlockTurnsWrongFalsely : Prop := blockTurnsRow.holds Tryd.pinned (OpenSpec.ofChange blockTurnsWrong)

/-- 'screelaw9.BlockBack': WHATEVER THE INPUT: true; the input reads as it did. -/
def blockBackSpec : ChangeSpec := { name := "blockBack", fn := fun _ => fun
  | [d1, d2] => { results := [.lit (.bool true)], args := [d1, d2] }
  | _ => none }
def blockBackRow : OpenClaim := { program := "ytaonjmkfbfhanaadoor", sum := "80091820430e5ffd2c1d5b1a6a8717876b7a6aee85cef893dbbedbe081c5c8e5", func := "scree/screelaw9.BlockBack", spec := "blockBack", unfollowed := true, recurses := true, named := ["scree/codec.nibbles"], apart := false, laid := [("scree/codec.nibbles", laid_scree_codec_nibbles)] }
def BlockBackSaid : Prop := blockBackRow.holds Tryd.pinned (OpenSpec.ofChange blockBackSpec)

/-- ITS FALSE NEIGHBOUR: 'it returns false'. Refute it at one input. -/
def blockBackWrong : ChangeSpec := { name := "blockBack", fn := fun _ => fun
  | [d1, d2] => { results := [.lit (.bool false)], args := [d1, d2] }
  | _ => none }
def BlockBackWrongFalsely : Prop := blockBackRow.holds Tryd.pinned (OpenSpec.ofChange blockBackWrong)

/-- 'screelaw9.BlockAgain': WHATEVER THE INPUT: true; the input reads as it did. -/
def blockAgainSpec : ChangeSpec := { name := "blockAgain", fn := fun _ => fun
  | [d] => { results := [.lit (.bool true)], args := [d] }
  | _ => none }
def blockAgainRow : OpenClaim := { program := "ytaonjmkfbfhanaadoor", sum := "80091820430e5ffd2c1d5b1a6a8717876b7a6aee85cef893dbbedbe081c5c8e5", func := "scree/screelaw9.BlockAgain", spec := "blockAgain", unfollowed := true, recurses := true, named := ["scree/codec.nibbles"], apart := false, laid := [("scree/codec.nibbles", laid_scree_codec_nibbles)] }
def BlockAgainSaid : Prop := blockAgainRow.holds Tryd.pinned (OpenSpec.ofChange blockAgainSpec)

/-- ITS FALSE NEIGHBOUR: 'it returns false'. Refute it at one input. -/
def blockAgainWrong : ChangeSpec := { name := "blockAgain", fn := fun _ => fun
  | [d] => { results := [.lit (.bool false)], args := [d] }
  | _ => none }
def BlockAgainWrongFalsely : Prop := blockAgainRow.holds Tryd.pinned (OpenSpec.ofChange blockAgainWrong)

/-- 'screelaw9.BlockTurned': WHATEVER THE INPUT: true; the input reads as it did. -/
def blockTurnedSpec : ChangeSpec := { name := "blockTurned", fn := fun _ => fun
  | [d1, d2, d3, d4, d5] => { results := [.lit (.bool true)], args := [d1, d2, d3, d4, d5] }
  | _ => none }
def blockTurnedRow : OpenClaim := { program := "ytaonjmkfbfhanaadoor", sum := "80091820430e5ffd2c1d5b1a6a8717876b7a6aee85cef893dbbedbe081c5c8e5", func := "scree/screelaw9.BlockTurned", spec := "blockTurned", unfollowed := true, recurses := true, named := ["scree/codec.nibbles"], apart := false, laid := [("scree/codec.nibbles", laid_scree_codec_nibbles)] }
def BlockTurnedSaid : Prop := blockTurnedRow.holds Tryd.pinned (OpenSpec.ofChange blockTurnedSpec)

/-- ITS FALSE NEIGHBOUR: 'it returns false'. Refute it at one input. -/
def blockTurnedWrong : ChangeSpec := { name := "blockTurned", fn := fun _ => fun
  | [d1, d2, d3, d4, d5] => { results := [.lit (.bool false)], args := [d1, d2, d3, d4, d5] }
  | _ => none }
def BlockTurnedWrongFalsely : Prop := blockTurnedRow.holds Tryd.pinned (OpenSpec.ofChange blockTurnedWrong)

/- THE SECOND FORM. 'bulk': how many values and letters a reading holds, each counted each time it is reached (what is shared counts as often as it is met; a slice's spare places count too). A statement '..UptoSaid' is the law's where the arguments, and the package variables that the reading takes, are together of bulk at most 1048576: NARROWER than '..Said'. Prove '..Said' where nothing that the law and all that it calls make is longer than what came in: it says more and counts as full. Else prove '..UptoSaid'. A law counts once. -/
mutual
def uptoBulk {H : Type} : DataW H → Nat
  | .lit (.string bytes) => bytes.length + 1
  | .lit _ => 1
  | .nil => 1
  | .ptr d => uptoBulk d + 1
  | .slice elems spare => uptoBulkAll elems + uptoBulkAll spare + 1
  | .agg parts => uptoBulkAll parts + 1
  | .iface _ d => uptoBulk d + 1
  | .map entries => uptoBulkEntries entries + 1
  | .held _ => 1
def uptoBulkAll {H : Type} : List (DataW H) → Nat
  | [] => 0
  | d :: r => uptoBulk d + uptoBulkAll r
def uptoBulkEntries {H : Type} : List (Lit × DataW H) → Nat
  | [] => 0
  | x :: r => uptoBulkEntry x + uptoBulkEntries r
def uptoBulkEntry {H : Type} : Lit × DataW H → Nat
  | (.string bytes, d) => bytes.length + uptoBulk d + 1
  | (_, d) => uptoBulk d + 1
 end
def uptoSmall : (H : Type) → List (DataW H) → Bool := fun _ ds => decide (uptoBulkAll ds ≤ 1048576)
def OpenSpec.upto (s : _root_.Go.ChangeSpec) : _root_.Go.OpenSpec := { _root_.Go.OpenSpec.ofChange s with cond := some uptoSmall }

/-- 'screelaw9.BlockOpens', WHERE WHAT IT READS IS OF BULK AT MOST 1048576: true; the input reads as it did. -/
def blockOpensUptoRow : OpenClaim := { program := "ytaonjmkfbfhanaadoor", sum := "80091820430e5ffd2c1d5b1a6a8717876b7a6aee85cef893dbbedbe081c5c8e5", func := "scree/screelaw9.BlockOpens", spec := "blockOpens", unfollowed := true, recurses := true, named := ["scree/codec.nibbles"], apart := false, laid := [("scree/codec.nibbles", laid_scree_codec_nibbles)], narrowed := true }
def BlockOpensUptoSaid : Prop := blockOpensUptoRow.holds Tryd.pinned (OpenSpec.upto blockOpensSpec)

/-- 'screelaw9.BlockReads', WHERE WHAT IT READS IS OF BULK AT MOST 1048576: true; the input reads as it did. -/
def blockReadsUptoRow : OpenClaim := { program := "ytaonjmkfbfhanaadoor", sum := "80091820430e5ffd2c1d5b1a6a8717876b7a6aee85cef893dbbedbe081c5c8e5", func := "scree/screelaw9.BlockReads", spec := "blockReads", unfollowed := true, recurses := true, named := ["scree/codec.nibbles"], apart := false, laid := [("scree/codec.nibbles", laid_scree_codec_nibbles)], narrowed := true }
def BlockReadsUptoSaid : Prop := blockReadsUptoRow.holds Tryd.pinned (OpenSpec.upto blockReadsSpec)

/-- 'screelaw9.BlockTurns', WHERE WHAT IT READS IS OF BULK AT MOST 1048576: true; the input reads as it did. -/
def blockTurnsUptoRow : OpenClaim := { program := "ytaonjmkfbfhanaadoor", sum := "80091820430e5ffd2c1d5b1a6a8717876b7a6aee85cef893dbbedbe081c5c8e5", func := "scree/screelaw9.BlockTurns", spec := "blockTurns", unfollowed := true, recurses := true, named := ["scree/codec.nibbles"], apart := false, laid := [("scree/codec.nibbles", laid_scree_codec_nibbles)], narrowed := true }
def BlockTurnsUptoSaid : Prop := blockTurnsUptoRow.holds Tryd.pinned (OpenSpec.upto blockTurnsSpec)

/-- 'screelaw9.BlockBack', WHERE WHAT IT READS IS OF BULK AT MOST 1048576: true; the input reads as it did. -/
def blockBackUptoRow : OpenClaim := { program := "ytaonjmkfbfhanaadoor", sum := "80091820430e5ffd2c1d5b1a6a8717876b7a6aee85cef893dbbedbe081c5c8e5", func := "scree/screelaw9.BlockBack", spec := "blockBack", unfollowed := true, recurses := true, named := ["scree/codec.nibbles"], apart := false, laid := [("scree/codec.nibbles", laid_scree_codec_nibbles)], narrowed := true }
def BlockBackUptoSaid : Prop := blockBackUptoRow.holds Tryd.pinned (OpenSpec.upto blockBackSpec)

/-- 'screelaw9.BlockAgain', WHERE WHAT IT READS IS OF BULK AT MOST 1048576: true; the input reads as it did. -/
def blockAgainUptoRow : OpenClaim := { program := "ytaonjmkfbfhanaadoor", sum := "80091820430e5ffd2c1d5b1a6a8717876b7a6aee85cef893dbbedbe081c5c8e5", func := "scree/screelaw9.BlockAgain", spec := "blockAgain", unfollowed := true, recurses := true, named := ["scree/codec.nibbles"], apart := false, laid := [("scree/codec.nibbles", laid_scree_codec_nibbles)], narrowed := true }
def BlockAgainUptoSaid : Prop := blockAgainUptoRow.holds Tryd.pinned (OpenSpec.upto blockAgainSpec)

/-- 'screelaw9.BlockTurned', WHERE WHAT IT READS IS OF BULK AT MOST 1048576: true; the input reads as it did. -/
def blockTurnedUptoRow : OpenClaim := { program := "ytaonjmkfbfhanaadoor", sum := "80091820430e5ffd2c1d5b1a6a8717876b7a6aee85cef893dbbedbe081c5c8e5", func := "scree/screelaw9.BlockTurned", spec := "blockTurned", unfollowed := true, recurses := true, named := ["scree/codec.nibbles"], apart := false, laid := [("scree/codec.nibbles", laid_scree_codec_nibbles)], narrowed := true }
def BlockTurnedUptoSaid : Prop := blockTurnedUptoRow.holds Tryd.pinned (OpenSpec.upto blockTurnedSpec)

end Rows
end Go.Proofs.YtaonjmkfbfhanaaDoor
