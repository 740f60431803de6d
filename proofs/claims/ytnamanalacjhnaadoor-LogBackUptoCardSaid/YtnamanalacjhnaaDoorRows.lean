/-
  NARROWER THAN 'FOR EVERY INPUT', by the rows' own cells (each row's printed sentence says how): LogAppends: laid · LogLent: laid · LogReads: laid · LogBack: laid · LogGroup: laid · LogFits: laid.
  DERIVED. THE GIVEN ROWS OF THIS SEAT. 6 by the template 'for every input the law returns true; each argument reads behind the call as it read before'; 0 by the template 'total and deterministic' (their statements: YtnamanalacjhnaaDoorTotals.lean).
  GIVEN WITH THE SEED: the statements are not yours to turn. If you find one false, say at which input.
  Laid BY PROGRAM, IN A SANDBOX (cutbox-rows.mjs): the forced cells as the released guide's own fill.sh prints them over the translation 85be830bba1bd5fa… (all of the seat's roots in one cut). By AI agents, Wed Nov 11 2026. No macro, syntax, notation, axiom, sorry.
-/
import Derived.Test.YtnamanalacjhnaaDoorChecked
import GoSem.Claim
import GoSem.ClaimJoined
import GoSem.ClaimMapViews
import Derived.JoinedTies
import Derived.KernelRfl
namespace Go.Proofs.YtnamanalacjhnaaDoor
/- THE CELL 'sum', in the pinned program and in every row, IS THE sha256 OF THE DUMP (.gsa) THAT YtnamanalacjhnaaDoorProg.lean LOADS. Nothing in Lean hashes anything: it is a label: what it is worth is what the hold of that sum in a sandbox is worth. -/
noncomputable def Tryd.pinned : Pinned := { name := "ytnamanalacjhnaadoor", sum := "85be830bba1bd5fa9a76ca31c4e01ef89b21d031da7a6c24a87452d8b0595197", checked := Tryd.checked }
namespace Rows
def none {H : Type} : Left H := { results := [], args := [] }

/- WHAT THE LISTED PACKAGE-LEVEL VARIABLES READ AS WHEN THE CALL BEGINS. Each datum BY PROGRAM (the guide's laid-datum.mjs) off the statement by which the dump's own 'gosem.cut.vars' lays the variable. In a bare row this is a premise. The card (YtnamanalacjhnaaDoorCards.lean) ties it to the program's text. -/
def laid_scree_codec_nibbles {H : Type} : DataW H := .agg [.lit (.int .u32 0), .lit (.int .u32 274646895), .lit (.int .u32 549293790), .lit (.int .u32 820201905), .lit (.int .u32 1098587580), .lit (.int .u32 1361435347), .lit (.int .u32 1640403810), .lit (.int .u32 1905808397), .lit (.int .u32 2197175160), .lit (.int .u32 2460548119), .lit (.int .u32 2722870694), .lit (.int .u32 2987750089), .lit (.int .u32 3280807620), .lit (.int .u32 3553878443), .lit (.int .u32 3811616794), .lit (.int .u32 4084100981)]

/-- 'screelaw7.LogAppends': WHATEVER THE INPUT: true; the input reads as it did. -/
def logAppendsSpec : ChangeSpec := { name := "logAppends", fn := fun _ => fun
  | [d1, d2] => { results := [.lit (.bool true)], args := [d1, d2] }
  | _ => none }
def logAppendsRow : OpenClaim := { program := "ytnamanalacjhnaadoor", sum := "85be830bba1bd5fa9a76ca31c4e01ef89b21d031da7a6c24a87452d8b0595197", func := "scree/screelaw7.LogAppends", spec := "logAppends", named := ["scree/codec.nibbles"], apart := false, laid := [("scree/codec.nibbles", laid_scree_codec_nibbles)] }
def LogAppendsSaid : Prop := logAppendsRow.holds Tryd.pinned (OpenSpec.ofChange logAppendsSpec)

/-- ITS FALSE NEIGHBOUR: 'it returns false'. Refute it at one input. -/
def logAppendsWrong : ChangeSpec := { name := "logAppends", fn := fun _ => fun
  | [d1, d2] => { results := [.lit (.bool false)], args := [d1, d2] }
  | _ => none }
def LogAppendsWrongFalsely : Prop := logAppendsRow.holds Tryd.pinned (OpenSpec.ofChange logAppendsWrong)

/-- 'screelaw7.LogLent': WHATEVER THE INPUT: true; the input reads as it did. -/
def logLentSpec : ChangeSpec := { name := "logLent", fn := fun _ => fun
  | [d1, d2] => { results := [.lit (.bool true)], args := [d1, d2] }
  | _ => none }
def logLentRow : OpenClaim := { program := "ytnamanalacjhnaadoor", sum := "85be830bba1bd5fa9a76ca31c4e01ef89b21d031da7a6c24a87452d8b0595197", func := "scree/screelaw7.LogLent", spec := "logLent", unfollowed := true, recurses := true, named := ["scree/codec.nibbles"], leaving := true, apart := false, laid := [("scree/codec.nibbles", laid_scree_codec_nibbles)] }
def LogLentSaid : Prop := logLentRow.holds Tryd.pinned (OpenSpec.ofChange logLentSpec)

/-- ITS FALSE NEIGHBOUR: 'it returns false'. Refute it at one input. -/
def logLentWrong : ChangeSpec := { name := "logLent", fn := fun _ => fun
  | [d1, d2] => { results := [.lit (.bool false)], args := [d1, d2] }
  | _ => none }
def LogLentWrongFalsely : Prop := logLentRow.holds Tryd.pinned (OpenSpec.ofChange logLentWrong)

/-- 'screelaw7.LogReads': WHATEVER THE INPUT: true; the input reads as it did. -/
def logReadsSpec : ChangeSpec := { name := "logReads", fn := fun _ => fun
  | [d1, d2] => { results := [.lit (.bool true)], args := [d1, d2] }
  | _ => none }
def logReadsRow : OpenClaim := { program := "ytnamanalacjhnaadoor", sum := "85be830bba1bd5fa9a76ca31c4e01ef89b21d031da7a6c24a87452d8b0595197", func := "scree/screelaw7.LogReads", spec := "logReads", unfollowed := true, recurses := true, named := ["scree/codec.nibbles"], leaving := true, apart := false, laid := [("scree/codec.nibbles", laid_scree_codec_nibbles)] }
def LogReadsSaid : Prop := logReadsRow.holds Tryd.pinned (OpenSpec.ofChange logReadsSpec)

/-- ITS FALSE NEIGHBOUR: 'it returns false'. Refute it at one input. -/
def logReadsWrong : ChangeSpec := { name := "logReads", fn := fun _ => fun
  | [d1, d2] => { results := [.lit (.bool false)], args := [d1, d2] }
  | _ => none }
def LogReadsWrongFalsely : Prop := logReadsRow.holds Tryd.pinned (OpenSpec.ofChange logReadsWrong)

/-- 'screelaw7.LogBack': WHATEVER THE INPUT: true; the input reads as it did. -/
def logBackSpec : ChangeSpec := { name := "logBack", fn := fun _ => fun
  | [d1, d2, d3] => { results := [.lit (.bool true)], args := [d1, d2, d3] }
  | _ => none }
def logBackRow : OpenClaim := { program := "ytnamanalacjhnaadoor", sum := "85be830bba1bd5fa9a76ca31c4e01ef89b21d031da7a6c24a87452d8b0595197", func := "scree/screelaw7.LogBack", spec := "logBack", named := ["scree/codec.nibbles"], apart := false, laid := [("scree/codec.nibbles", laid_scree_codec_nibbles)] }
def LogBackSaid : Prop := logBackRow.holds Tryd.pinned (OpenSpec.ofChange logBackSpec)

/-- ITS FALSE NEIGHBOUR: 'it returns false'. Refute it at one input. -/
def logBackWrong : ChangeSpec := { name := "logBack", fn := fun _ => fun
  | [d1, d2, d3] => { results := [.lit (.bool false)], args := [d1, d2, d3] }
  | _ => none }
def LogBackWrongFalsely : Prop := logBackRow.holds Tryd.pinned (OpenSpec.ofChange logBackWrong)

/-- 'screelaw7.LogGroup': WHATEVER THE INPUT: true; the input reads as it did. -/
def logGroupSpec : ChangeSpec := { name := "logGroup", fn := fun _ => fun
  | [d1, d2] => { results := [.lit (.bool true)], args := [d1, d2] }
  | _ => none }
def logGroupRow : OpenClaim := { program := "ytnamanalacjhnaadoor", sum := "85be830bba1bd5fa9a76ca31c4e01ef89b21d031da7a6c24a87452d8b0595197", func := "scree/screelaw7.LogGroup", spec := "logGroup", named := ["scree/codec.nibbles"], apart := false, laid := [("scree/codec.nibbles", laid_scree_codec_nibbles)] }
def LogGroupSaid : Prop := logGroupRow.holds Tryd.pinned (OpenSpec.ofChange logGroupSpec)

/-- ITS FALSE NEIGHBOUR: 'it returns false'. Refute it at one input. -/
def logGroupWrong : ChangeSpec := { name := "logGroup", fn := fun _ => fun
  | [d1, d2] => { results := [.lit (.bool false)], args := [d1, d2] }
  | _ => none }
def LogGroupWrongFalsely : Prop := logGroupRow.holds Tryd.pinned (OpenSpec.ofChange logGroupWrong)

/-- 'screelaw7.LogFits': WHATEVER THE INPUT: true; the input reads as it did. -/
def logFitsSpec : ChangeSpec := { name := "logFits", fn := fun _ => fun
  | [d1, d2, d3] => { results := [.lit (.bool true)], args := [d1, d2, d3] }
  | _ => none }
def logFitsRow : OpenClaim := { program := "ytnamanalacjhnaadoor", sum := "85be830bba1bd5fa9a76ca31c4e01ef89b21d031da7a6c24a87452d8b0595197", func := "scree/screelaw7.LogFits", spec := "logFits", named := ["scree/codec.nibbles"], apart := false, laid := [("scree/codec.nibbles", laid_scree_codec_nibbles)] }
def LogFitsSaid : Prop := logFitsRow.holds Tryd.pinned (OpenSpec.ofChange logFitsSpec)

/-- ITS FALSE NEIGHBOUR: 'it returns false'. Refute it at one input. -/
def logFitsWrong : ChangeSpec := { name := "logFits", fn := fun _ => fun
  | [d1, d2, d3] => { results := [.lit (.bool false)], args := [d1, d2, d3] }
  | _ => none }
def LogFitsWrongFalsely : Prop := logFitsRow.holds Tryd.pinned (OpenSpec.ofChange logFitsWrong)

/- THE SECOND FORM. 'bulk': how many values and letters a reading holds, each counted each time it is reached (what is shared counts as often as it is met; a slice's spare places count too). A statement '..UptoSaid' is the law's where the arguments, and the package variables that the reading takes, are together of bulk at most 1048576: NARROWER than '..Said'. Prove '..Said' where nothing that the law and all that it calls make is longer than what came in: it says more and counts as full. Else prove '..UptoSaid'. A law counts once. -/
mutual
def uptoBulk {H : Type} : DataW H → Nat
  | .lit (.string bytes) => bytes.length + 1
  | .lit _ => 1
  | .nil => 1
  | .ptr d => uptoBulk d + 1
  | .slice elems spare => uptoBulkAll elems + uptoBulkAll spare + 1
  | .agg parts => uptoBulkAll parts + 1
  | .iface _ d => uptoBulk d + 1
  | .map entries => uptoBulkEntries entries + 1
  | .held _ => 1
def uptoBulkAll {H : Type} : List (DataW H) → Nat
  | [] => 0
  | d :: r => uptoBulk d + uptoBulkAll r
def uptoBulkEntries {H : Type} : List (Lit × DataW H) → Nat
  | [] => 0
  | x :: r => uptoBulkEntry x + uptoBulkEntries r
def uptoBulkEntry {H : Type} : Lit × DataW H → Nat
  | (.string bytes, d) => bytes.length + uptoBulk d + 1
  | (_, d) => uptoBulk d + 1
 end
def uptoSmall : (H : Type) → List (DataW H) → Bool := fun _ ds => decide (uptoBulkAll ds ≤ 1048576)
def OpenSpec.upto (s : _root_.Go.ChangeSpec) : _root_.Go.OpenSpec := { _root_.Go.OpenSpec.ofChange s with cond := some uptoSmall }

/-- 'screelaw7.LogAppends', WHERE WHAT IT READS IS OF BULK AT MOST 1048576: true; the input reads as it did. -/
def logAppendsUptoRow : OpenClaim := { program := "ytnamanalacjhnaadoor", sum := "85be830bba1bd5fa9a76ca31c4e01ef89b21d031da7a6c24a87452d8b0595197", func := "scree/screelaw7.LogAppends", spec := "logAppends", named := ["scree/codec.nibbles"], apart := false, laid := [("scree/codec.nibbles", laid_scree_codec_nibbles)], narrowed := true }
def LogAppendsUptoSaid : Prop := logAppendsUptoRow.holds Tryd.pinned (OpenSpec.upto logAppendsSpec)

/-- 'screelaw7.LogLent', WHERE WHAT IT READS IS OF BULK AT MOST 1048576: true; the input reads as it did. -/
def logLentUptoRow : OpenClaim := { program := "ytnamanalacjhnaadoor", sum := "85be830bba1bd5fa9a76ca31c4e01ef89b21d031da7a6c24a87452d8b0595197", func := "scree/screelaw7.LogLent", spec := "logLent", unfollowed := true, recurses := true, named := ["scree/codec.nibbles"], leaving := true, apart := false, laid := [("scree/codec.nibbles", laid_scree_codec_nibbles)], narrowed := true }
def LogLentUptoSaid : Prop := logLentUptoRow.holds Tryd.pinned (OpenSpec.upto logLentSpec)

/-- 'screelaw7.LogReads', WHERE WHAT IT READS IS OF BULK AT MOST 1048576: true; the input reads as it did. -/
def logReadsUptoRow : OpenClaim := { program := "ytnamanalacjhnaadoor", sum := "85be830bba1bd5fa9a76ca31c4e01ef89b21d031da7a6c24a87452d8b0595197", func := "scree/screelaw7.LogReads", spec := "logReads", unfollowed := true, recurses := true, named := ["scree/codec.nibbles"], leaving := true, apart := false, laid := [("scree/codec.nibbles", laid_scree_codec_nibbles)], narrowed := true }
def LogReadsUptoSaid : Prop := logReadsUptoRow.holds Tryd.pinned (OpenSpec.upto logReadsSpec)

/-- 'screelaw7.LogBack', WHERE WHAT IT READS IS OF BULK AT MOST 1048576: true; the input reads as it did. -/
def logBackUptoRow : OpenClaim := { program := "ytnamanalacjhnaadoor", sum := "85be830bba1bd5fa9a76ca31c4e01ef89b21d031da7a6c24a87452d8b0595197", func := "scree/screelaw7.LogBack", spec := "logBack", named := ["scree/codec.nibbles"], apart := false, laid := [("scree/codec.nibbles", laid_scree_codec_nibbles)], narrowed := true }
def LogBackUptoSaid : Prop := logBackUptoRow.holds Tryd.pinned (OpenSpec.upto logBackSpec)

/-- 'screelaw7.LogGroup', WHERE WHAT IT READS IS OF BULK AT MOST 1048576: true; the input reads as it did. -/
def logGroupUptoRow : OpenClaim := { program := "ytnamanalacjhnaadoor", sum := "85be830bba1bd5fa9a76ca31c4e01ef89b21d031da7a6c24a87452d8b0595197", func := "scree/screelaw7.LogGroup", spec := "logGroup", named := ["scree/codec.nibbles"], apart := false, laid := [("scree/codec.nibbles", laid_scree_codec_nibbles)], narrowed := true }
def LogGroupUptoSaid : Prop := logGroupUptoRow.holds Tryd.pinned (OpenSpec.upto logGroupSpec)

/-- 'screelaw7.LogFits', WHERE WHAT IT READS IS OF BULK AT MOST 1048576: true; the input reads as it did. -/
def logFitsUptoRow : OpenClaim := { program := "ytnamanalacjhnaadoor", sum := "85be830bba1bd5fa9a76ca31c4e01ef89b21d031da7a6c24a87452d8b0595197", func := "scree/screelaw7.LogFits", spec := "logFits", named := ["scree/codec.nibbles"], apart := false, laid := [("scree/codec.nibbles", laid_scree_codec_nibbles)], narrowed := true }
def LogFitsUptoSaid : Prop := logFitsUptoRow.holds Tryd.pinned (OpenSpec.upto logFitsSpec)

end Rows
end Go.Proofs.YtnamanalacjhnaaDoor
