/-
  NARROWER THAN 'FOR EVERY INPUT', by the rows' own cells (each row's printed sentence says how): CodecSums: laid · CodecFrames: laid · CodecDamage: laid · CodecBack: laid · CodecForm: laid.
  DERIVED. THE GIVEN ROWS OF THIS SEAT. 5 by the template 'for every input the law returns true; each argument reads behind the call as it read before'; 0 by the template 'total and deterministic' (their statements: YtipefhadafildaaDoorTotals.lean).
  GIVEN WITH THE SEED: the statements are not yours to turn. If you find one false, say at which input.
  Laid BY PROGRAM, IN A SANDBOX (cutbox-rows.mjs): the forced cells as the released guide's own fill.sh prints them over the translation ecb4c7a7acc1a4ce… (all of the seat's roots in one cut). By AI agents, Wed Nov 11 2026. No macro, syntax, notation, axiom, sorry.
-/
import Derived.Test.YtipefhadafildaaDoorChecked
import GoSem.Claim
import GoSem.ClaimJoined
import GoSem.ClaimMapViews
import Derived.JoinedTies
import Derived.KernelRfl
namespace Go.Proofs.YtipefhadafildaaDoor
/- THE CELL 'sum', in the pinned program and in every row, IS THE sha256 OF THE DUMP (.gsa) THAT YtipefhadafildaaDoorProg.lean LOADS. Nothing in Lean hashes anything: it is a label: what it is worth is what the hold of that sum in a sandbox is worth. -/
noncomputable def Tryd.pinned : Pinned := { name := "ytipefhadafildaadoor", sum := "ecb4c7a7acc1a4ceb59e29575d460f045f4eb1b8099f4f74e8bf7ba6a596c324", checked := Tryd.checked }
namespace Rows
def none {H : Type} : Left H := { results := [], args := [] }

/- WHAT THE LISTED PACKAGE-LEVEL VARIABLES READ AS WHEN THE CALL BEGINS. Each datum BY PROGRAM (the guide's laid-datum.mjs) off the statement by which the dump's own 'gosem.cut.vars' lays the variable. In a bare row this is a premise. The card (YtipefhadafildaaDoorCards.lean) ties it to the program's text. -/
def laid_scree_codec_nibbles {H : Type} : DataW H := .agg [.lit (.int .u32 0), .lit (.int .u32 274646895), .lit (.int .u32 549293790), .lit (.int .u32 820201905), .lit (.int .u32 1098587580), .lit (.int .u32 1361435347), .lit (.int .u32 1640403810), .lit (.int .u32 1905808397), .lit (.int .u32 2197175160), .lit (.int .u32 2460548119), .lit (.int .u32 2722870694), .lit (.int .u32 2987750089), .lit (.int .u32 3280807620), .lit (.int .u32 3553878443), .lit (.int .u32 3811616794), .lit (.int .u32 4084100981)]

/-- 'screelaw2.CodecSums': WHATEVER THE INPUT: true; the input reads as it did. -/
def codecSumsSpec : ChangeSpec := { name := "codecSums", fn := fun _ => fun
  | [d] => { results := [.lit (.bool true)], args := [d] }
  | _ => none }
def codecSumsRow : OpenClaim := { program := "ytipefhadafildaadoor", sum := "ecb4c7a7acc1a4ceb59e29575d460f045f4eb1b8099f4f74e8bf7ba6a596c324", func := "scree/screelaw2.CodecSums", spec := "codecSums", named := ["scree/codec.nibbles"], apart := false, laid := [("scree/codec.nibbles", laid_scree_codec_nibbles)] }
def CodecSumsSaid : Prop := codecSumsRow.holds Tryd.pinned (OpenSpec.ofChange codecSumsSpec)

/-- ITS FALSE NEIGHBOUR: 'it returns false'. Refute it at one input. -/
def codecSumsWrong : ChangeSpec := { name := "codecSums", fn := fun _ => fun
  | [d] => { results := [.lit (.bool false)], args := [d] }
  | _ => none }
def CodecSumsWrongFalsely : Prop := codecSumsRow.holds Tryd.pinned (OpenSpec.ofChange codecSumsWrong)

/-- 'screelaw2.CodecFrames': WHATEVER THE INPUT: true; the input reads as it did. -/
def codecFramesSpec : ChangeSpec := { name := "codecFrames", fn := fun _ => fun
  | [d1, d2, d3, d4] => { results := [.lit (.bool true)], args := [d1, d2, d3, d4] }
  | _ => none }
def codecFramesRow : OpenClaim := { program := "ytipefhadafildaadoor", sum := "ecb4c7a7acc1a4ceb59e29575d460f045f4eb1b8099f4f74e8bf7ba6a596c324", func := "scree/screelaw2.CodecFrames", spec := "codecFrames", named := ["scree/codec.nibbles"], apart := false, laid := [("scree/codec.nibbles", laid_scree_codec_nibbles)] }
def CodecFramesSaid : Prop := codecFramesRow.holds Tryd.pinned (OpenSpec.ofChange codecFramesSpec)

/-- ITS FALSE NEIGHBOUR: 'it returns false'. Refute it at one input. -/
def codecFramesWrong : ChangeSpec := { name := "codecFrames", fn := fun _ => fun
  | [d1, d2, d3, d4] => { results := [.lit (.bool false)], args := [d1, d2, d3, d4] }
  | _ => none }
def CodecFramesWrongFalsely : Prop := codecFramesRow.holds Tryd.pinned (OpenSpec.ofChange codecFramesWrong)

/-- 'screelaw2.CodecDamage': WHATEVER THE INPUT: true; the input reads as it did. -/
def codecDamageSpec : ChangeSpec := { name := "codecDamage", fn := fun _ => fun
  | [d1, d2, d3] => { results := [.lit (.bool true)], args := [d1, d2, d3] }
  | _ => none }
def codecDamageRow : OpenClaim := { program := "ytipefhadafildaadoor", sum := "ecb4c7a7acc1a4ceb59e29575d460f045f4eb1b8099f4f74e8bf7ba6a596c324", func := "scree/screelaw2.CodecDamage", spec := "codecDamage", named := ["scree/codec.nibbles"], apart := false, laid := [("scree/codec.nibbles", laid_scree_codec_nibbles)] }
def CodecDamageSaid : Prop := codecDamageRow.holds Tryd.pinned (OpenSpec.ofChange codecDamageSpec)

/-- ITS FALSE NEIGHBOUR: 'it returns false'. Refute it at one input. -/
def codecDamageWrong : ChangeSpec := { name := "codecDamage", fn := fun _ => fun
  | [d1, d2, d3] => { results := [.lit (.bool false)], args := [d1, d2, d3] }
  | _ => none }
def CodecDamageWrongFalsely : Prop := codecDamageRow.holds Tryd.pinned (OpenSpec.ofChange codecDamageWrong)

/-- 'screelaw2.CodecBack': WHATEVER THE INPUT: true; the input reads as it did. -/
def codecBackSpec : ChangeSpec := { name := "codecBack", fn := fun _ => fun
  | [d1, d2, d3, d4] => { results := [.lit (.bool true)], args := [d1, d2, d3, d4] }
  | _ => none }
def codecBackRow : OpenClaim := { program := "ytipefhadafildaadoor", sum := "ecb4c7a7acc1a4ceb59e29575d460f045f4eb1b8099f4f74e8bf7ba6a596c324", func := "scree/screelaw2.CodecBack", spec := "codecBack", named := ["scree/codec.nibbles"], apart := false, laid := [("scree/codec.nibbles", laid_scree_codec_nibbles)] }
def CodecBackSaid : Prop := codecBackRow.holds Tryd.pinned (OpenSpec.ofChange codecBackSpec)

/-- ITS FALSE NEIGHBOUR: 'it returns false'. Refute it at one input. -/
def codecBackWrong : ChangeSpec := { name := "codecBack", fn := fun _ => fun
  | [d1, d2, d3, d4] => { results := [.lit (.bool false)], args := [d1, d2, d3, d4] }
  | _ => none }
def CodecBackWrongFalsely : Prop := codecBackRow.holds Tryd.pinned (OpenSpec.ofChange codecBackWrong)

/-- 'screelaw2.CodecForm': WHATEVER THE INPUT: true; the input reads as it did. -/
def codecFormSpec : ChangeSpec := { name := "codecForm", fn := fun _ => fun
  | [d1, d2] => { results := [.lit (.bool true)], args := [d1, d2] }
  | _ => none }
def codecFormRow : OpenClaim := { program := "ytipefhadafildaadoor", sum := "ecb4c7a7acc1a4ceb59e29575d460f045f4eb1b8099f4f74e8bf7ba6a596c324", func := "scree/screelaw2.CodecForm", spec := "codecForm", named := ["scree/codec.nibbles"], apart := false, laid := [("scree/codec.nibbles", laid_scree_codec_nibbles)] }
def CodecFormSaid : Prop := codecFormRow.holds Tryd.pinned (OpenSpec.ofChange codecFormSpec)

/-- ITS FALSE NEIGHBOUR: 'it returns false'. Refute it at one input. -/
def codecFormWrong : ChangeSpec := { name := "codecForm", fn := fun _ => fun
  | [d1, d2] => { results := [.lit (.bool false)], args := [d1, d2] }
  | _ => none }
def CodecFormWrongFalsely : Prop := codecFormRow.holds Tryd.pinned (OpenSpec.ofChange codecFormWrong)

/- THE SECOND FORM. 'bulk': how many values and letters a reading holds, each counted each time it is reached (what is shared counts as often as it is met; a slice's spare places count too). A statement '..UptoSaid' is the law's where the arguments, and the package variables that the reading takes, are together of bulk at most 1048576: NARROWER than '..Said'. Prove '..Said' where nothing that the law and all that it calls make is longer than what came in: it says more and counts as full. Else prove '..UptoSaid'. A law counts once. -/
mutual
def uptoBulk {H : Type} : DataW H → Nat
  | .lit (.string bytes) => bytes.length + 1
  | .lit _ => 1
  | .nil => 1
  | .ptr d => uptoBulk d + 1
  | .slice elems spare => uptoBulkAll elems + uptoBulkAll spare + 1
  | .agg parts => uptoBulkAll parts + 1
  | .iface _ d => uptoBulk d + 1
  | .map entries => uptoBulkEntries entries + 1
  | .held _ => 1
def uptoBulkAll {H : Type} : List (DataW H) → Nat
  | [] => 0
  | d :: r => uptoBulk d + uptoBulkAll r
def uptoBulkEntries {H : Type} : List (Lit × DataW H) → Nat
  | [] => 0
  | x :: r => uptoBulkEntry x + uptoBulkEntries r
def uptoBulkEntry {H : Type} : Lit × DataW H → Nat
  | (.string bytes, d) => bytes.length + uptoBulk d + 1
  | (_, d) => uptoBulk d + 1
 end
def uptoSmall : (H : Type) → List (DataW H) → Bool := fun _ ds => decide (uptoBulkAll ds ≤ 1048576)
def OpenSpec.upto (s : _root_.Go.ChangeSpec) : _root_.Go.OpenSpec := { _root_.Go.OpenSpec.ofChange s with cond := some uptoSmall }

/-- 'screelaw2.CodecSums', WHERE WHAT IT READS IS OF BULK AT MOST 1048576: true; the input reads as it did. -/
def codecSumsUptoRow : OpenClaim := { program := "ytipefhadafildaadoor", sum := "ecb4c7a7acc1a4ceb59e29575d460f045f4eb1b8099f4f74e8bf7ba6a596c324", func := "scree/screelaw2.CodecSums", spec := "codecSums", named := ["scree/codec.nibbles"], apart := false, laid := [("scree/codec.nibbles", laid_scree_codec_nibbles)], narrowed := true }
def CodecSumsUptoSaid : Prop := codecSumsUptoRow.holds Tryd.pinned (OpenSpec.upto codecSumsSpec)

/-- 'screelaw2.CodecFrames', WHERE WHAT IT READS IS OF BULK AT MOST 1048576: true; the input reads as it did. -/
def codecFramesUptoRow : OpenClaim := { program := "ytipefhadafildaadoor", sum := "ecb4c7a7acc1a4ceb59e29575d460f045f4eb1b8099f4f74e8bf7ba6a596c324", func := "scree/screelaw2.CodecFrames", spec := "codecFrames", named := ["scree/codec.nibbles"], apart := false, laid := [("scree/codec.nibbles", laid_scree_codec_nibbles)], narrowed := true }
def CodecFramesUptoSaid : Prop := codecFramesUptoRow.holds Tryd.pinned (OpenSpec.upto codecFramesSpec)

/-- 'screelaw2.CodecDamage', WHERE WHAT IT READS IS OF BULK AT MOST 1048576: true; the input reads as it did. -/
def codecDamageUptoRow : OpenClaim := { program := "ytipefhadafildaadoor", sum := "ecb4c7a7acc1a4ceb59e29575d460f045f4eb1b8099f4f74e8bf7ba6a596c324", func := "scree/screelaw2.CodecDamage", spec := "codecDamage", named := ["scree/codec.nibbles"], apart := false, laid := [("scree/codec.nibbles", laid_scree_codec_nibbles)], narrowed := true }
def CodecDamageUptoSaid : Prop := codecDamageUptoRow.holds Tryd.pinned (OpenSpec.upto codecDamageSpec)

/-- 'screelaw2.CodecBack', WHERE WHAT IT READS IS OF BULK AT MOST 1048576: true; the input reads as it did. -/
def codecBackUptoRow : OpenClaim := { program := "ytipefhadafildaadoor", sum := "ecb4c7a7acc1a4ceb59e29575d460f045f4eb1b8099f4f74e8bf7ba6a596c324", func := "scree/screelaw2.CodecBack", spec := "codecBack", named := ["scree/codec.nibbles"], apart := false, laid := [("scree/codec.nibbles", laid_scree_codec_nibbles)], narrowed := true }
def CodecBackUptoSaid : Prop := codecBackUptoRow.holds Tryd.pinned (OpenSpec.upto codecBackSpec)

/-- 'screelaw2.CodecForm', WHERE WHAT IT READS IS OF BULK AT MOST 1048576: true; the input reads as it did. -/
def codecFormUptoRow : OpenClaim := { program := "ytipefhadafildaadoor", sum := "ecb4c7a7acc1a4ceb59e29575d460f045f4eb1b8099f4f74e8bf7ba6a596c324", func := "scree/screelaw2.CodecForm", spec := "codecForm", named := ["scree/codec.nibbles"], apart := false, laid := [("scree/codec.nibbles", laid_scree_codec_nibbles)], narrowed := true }
def CodecFormUptoSaid : Prop := codecFormUptoRow.holds Tryd.pinned (OpenSpec.upto codecFormSpec)

end Rows
end Go.Proofs.YtipefhadafildaaDoor
