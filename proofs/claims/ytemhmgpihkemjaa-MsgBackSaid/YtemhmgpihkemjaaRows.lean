/-
  No cell of these rows narrows 'for every input' (looked for: loops, veiled, ifaces, maps, wideKeys, modest, calm, conditions, laid).
  DERIVED. THE GIVEN ROWS OF THIS SEAT. 5 by the template 'for every input the law returns true; each argument reads behind the call as it read before'; 0 by the template 'total and deterministic' (their statements: YtemhmgpihkemjaaTotals.lean).
  GIVEN WITH THE SEED: the statements are not yours to turn. If you find one false, say at which input.
  Laid BY PROGRAM, IN A SANDBOX (cutbox-rows.mjs): the forced cells as the released guide's own fill.sh prints them over the translation 3ae4b22f1c68d80d… (all of the seat's roots in one cut). By AI agents, Wed Nov 11 2026. No macro, syntax, notation, axiom, sorry.
-/
import Derived.Test.YtemhmgpihkemjaaChecked
import GoSem.Claim
import GoSem.ClaimJoined
import GoSem.ClaimMapViews
import Derived.JoinedTies
import Derived.KernelRfl
namespace Go.Proofs.Ytemhmgpihkemjaa
/- THE CELL 'sum', in the pinned program and in every row, IS THE sha256 OF THE DUMP (.gsa) THAT YtemhmgpihkemjaaProg.lean LOADS. Nothing in Lean hashes anything: it is a label: what it is worth is what the hold of that sum in a sandbox is worth. -/
noncomputable def Try.pinned : Pinned := { name := "ytemhmgpihkemjaa", sum := "3ae4b22f1c68d80da9982afc8b02f5983b5c09d06df45f53ffeca8b11e87f5e1", checked := Try.checked }
namespace Rows
def none {H : Type} : Left H := { results := [], args := [] }

/-- 'isoglosslaw05.MsgEncodes': WHATEVER THE INPUT: true; the input reads as it did. -/
def msgEncodesSpec : ChangeSpec := { name := "msgEncodes", fn := fun _ => fun
  | [d1, d2] => { results := [.lit (.bool true)], args := [d1, d2] }
  | _ => none }
def msgEncodesRow : OpenClaim := { program := "ytemhmgpihkemjaa", sum := "3ae4b22f1c68d80da9982afc8b02f5983b5c09d06df45f53ffeca8b11e87f5e1", func := "isogloss/isoglosslaw05.MsgEncodes", spec := "msgEncodes", apart := false }
def MsgEncodesSaid : Prop := msgEncodesRow.holds Try.pinned (OpenSpec.ofChange msgEncodesSpec)

/-- ITS FALSE NEIGHBOUR: 'it returns false'. Refute it at one input. -/
def msgEncodesWrong : ChangeSpec := { name := "msgEncodes", fn := fun _ => fun
  | [d1, d2] => { results := [.lit (.bool false)], args := [d1, d2] }
  | _ => none }
def MsgEncodesWrongFalsely : Prop := msgEncodesRow.holds Try.pinned (OpenSpec.ofChange msgEncodesWrong)

/-- 'isoglosslaw05.MsgBack': WHATEVER THE INPUT: true; the input reads as it did. -/
def msgBackSpec : ChangeSpec := { name := "msgBack", fn := fun _ => fun
  | [d1, d2, d3] => { results := [.lit (.bool true)], args := [d1, d2, d3] }
  | _ => none }
def msgBackRow : OpenClaim := { program := "ytemhmgpihkemjaa", sum := "3ae4b22f1c68d80da9982afc8b02f5983b5c09d06df45f53ffeca8b11e87f5e1", func := "isogloss/isoglosslaw05.MsgBack", spec := "msgBack", unfollowed := true, recurses := true, apart := false }
def MsgBackSaid : Prop := msgBackRow.holds Try.pinned (OpenSpec.ofChange msgBackSpec)

/-- ITS FALSE NEIGHBOUR: 'it returns false'. Refute it at one input. -/
def msgBackWrong : ChangeSpec := { name := "msgBack", fn := fun _ => fun
  | [d1, d2, d3] => { results := [.lit (.bool false)], args := [d1, d2, d3] }
  | _ => none }
def MsgBackWrongFalsely : Prop := msgBackRow.holds Try.pinned (OpenSpec.ofChange msgBackWrong)

/-- 'isoglosslaw05.MsgDecodes': WHATEVER THE INPUT: true; the input reads as it did. -/
def msgDecodesSpec : ChangeSpec := { name := "msgDecodes", fn := fun _ => fun
  | [d1, d2] => { results := [.lit (.bool true)], args := [d1, d2] }
  | _ => none }
def msgDecodesRow : OpenClaim := { program := "ytemhmgpihkemjaa", sum := "3ae4b22f1c68d80da9982afc8b02f5983b5c09d06df45f53ffeca8b11e87f5e1", func := "isogloss/isoglosslaw05.MsgDecodes", spec := "msgDecodes", unfollowed := true, recurses := true, apart := false }
def MsgDecodesSaid : Prop := msgDecodesRow.holds Try.pinned (OpenSpec.ofChange msgDecodesSpec)

/-- ITS FALSE NEIGHBOUR: 'it returns false'. Refute it at one input. -/
def msgDecodesWrong : ChangeSpec := { name := "msgDecodes", fn := fun _ => fun
  | [d1, d2] => { results := [.lit (.bool false)], args := [d1, d2] }
  | _ => none }
def MsgDecodesWrongFalsely : Prop := msgDecodesRow.holds Try.pinned (OpenSpec.ofChange msgDecodesWrong)

/-- 'isoglosslaw05.MsgExtra': WHATEVER THE INPUT: true; the input reads as it did. -/
def msgExtraSpec : ChangeSpec := { name := "msgExtra", fn := fun _ => fun
  | [d1, d2, d3] => { results := [.lit (.bool true)], args := [d1, d2, d3] }
  | _ => none }
def msgExtraRow : OpenClaim := { program := "ytemhmgpihkemjaa", sum := "3ae4b22f1c68d80da9982afc8b02f5983b5c09d06df45f53ffeca8b11e87f5e1", func := "isogloss/isoglosslaw05.MsgExtra", spec := "msgExtra", unfollowed := true, recurses := true, apart := false }
def MsgExtraSaid : Prop := msgExtraRow.holds Try.pinned (OpenSpec.ofChange msgExtraSpec)

/-- ITS FALSE NEIGHBOUR: 'it returns false'. Refute it at one input. -/
def msgExtraWrong : ChangeSpec := { name := "msgExtra", fn := fun _ => fun
  | [d1, d2, d3] => { results := [.lit (.bool false)], args := [d1, d2, d3] }
  | _ => none }
def MsgExtraWrongFalsely : Prop := msgExtraRow.holds Try.pinned (OpenSpec.ofChange msgExtraWrong)

/-- 'isoglosslaw05.MsgLong': WHATEVER THE INPUT: true; the input reads as it did. -/
def msgLongSpec : ChangeSpec := { name := "msgLong", fn := fun _ => fun
  | [d1, d2, d3] => { results := [.lit (.bool true)], args := [d1, d2, d3] }
  | _ => none }
def msgLongRow : OpenClaim := { program := "ytemhmgpihkemjaa", sum := "3ae4b22f1c68d80da9982afc8b02f5983b5c09d06df45f53ffeca8b11e87f5e1", func := "isogloss/isoglosslaw05.MsgLong", spec := "msgLong", unfollowed := true, recurses := true, apart := false }
def MsgLongSaid : Prop := msgLongRow.holds Try.pinned (OpenSpec.ofChange msgLongSpec)

/-- ITS FALSE NEIGHBOUR: 'it returns false'. Refute it at one input. -/
def msgLongWrong : ChangeSpec := { name := "msgLong", fn := fun _ => fun
  | [d1, d2, d3] => { results := [.lit (.bool false)], args := [d1, d2, d3] }
  | _ => none }
def MsgLongWrongFalsely : Prop := msgLongRow.holds Try.pinned (OpenSpec.ofChange msgLongWrong)

/- THE SECOND FORM. 'bulk': how many values and letters a reading holds, each counted each time it is reached (what is shared counts as often as it is met; a slice's spare places count too). A statement '..UptoSaid' is the law's where the arguments, and the package variables that the reading takes, are together of bulk at most 1048576: NARROWER than '..Said'. Prove '..Said' where nothing that the law and all that it calls make is longer than what came in: it says more and counts as full. Else prove '..UptoSaid'. A law counts once. -/
mutual
def uptoBulk {H : Type} : DataW H → Nat
  | .lit (.string bytes) => bytes.length + 1
  | .lit _ => 1
  | .nil => 1
  | .ptr d => uptoBulk d + 1
  | .slice elems spare => uptoBulkAll elems + uptoBulkAll spare + 1
  | .agg parts => uptoBulkAll parts + 1
  | .iface _ d => uptoBulk d + 1
  | .map entries => uptoBulkEntries entries + 1
  | .held _ => 1
def uptoBulkAll {H : Type} : List (DataW H) → Nat
  | [] => 0
  | d :: r => uptoBulk d + uptoBulkAll r
def uptoBulkEntries {H : Type} : List (Lit × DataW H) → Nat
  | [] => 0
  | x :: r => uptoBulkEntry x + uptoBulkEntries r
def uptoBulkEntry {H : Type} : Lit × DataW H → Nat
  | (.string bytes, d) => bytes.length + uptoBulk d + 1
  | (_, d) => uptoBulk d + 1
 end
def uptoSmall : (H : Type) → List (DataW H) → Bool := fun _ ds => decide (uptoBulkAll ds ≤ 1048576)
def OpenSpec.upto (s : _root_.Go.ChangeSpec) : _root_.Go.OpenSpec := { _root_.Go.OpenSpec.ofChange s with cond := some uptoSmall }

/-- 'isoglosslaw05.MsgEncodes', WHERE WHAT IT READS IS OF BULK AT MOST 1048576: true; the input reads as it did. -/
def msgEncodesUptoRow : OpenClaim := { program := "ytemhmgpihkemjaa", sum := "3ae4b22f1c68d80da9982afc8b02f5983b5c09d06df45f53ffeca8b11e87f5e1", func := "isogloss/isoglosslaw05.MsgEncodes", spec := "msgEncodes", apart := false, narrowed := true }
def MsgEncodesUptoSaid : Prop := msgEncodesUptoRow.holds Try.pinned (OpenSpec.upto msgEncodesSpec)

/-- 'isoglosslaw05.MsgBack', WHERE WHAT IT READS IS OF BULK AT MOST 1048576: true; the input reads as it did. -/
def msgBackUptoRow : OpenClaim := { program := "ytemhmgpihkemjaa", sum := "3ae4b22f1c68d80da9982afc8b02f5983b5c09d06df45f53ffeca8b11e87f5e1", func := "isogloss/isoglosslaw05.MsgBack", spec := "msgBack", unfollowed := true, recurses := true, apart := false, narrowed := true }
def MsgBackUptoSaid : Prop := msgBackUptoRow.holds Try.pinned (OpenSpec.upto msgBackSpec)

/-- 'isoglosslaw05.MsgDecodes', WHERE WHAT IT READS IS OF BULK AT MOST 1048576: true; the input reads as it did. -/
def msgDecodesUptoRow : OpenClaim := { program := "ytemhmgpihkemjaa", sum := "3ae4b22f1c68d80da9982afc8b02f5983b5c09d06df45f53ffeca8b11e87f5e1", func := "isogloss/isoglosslaw05.MsgDecodes", spec := "msgDecodes", unfollowed := true, recurses := true, apart := false, narrowed := true }
def MsgDecodesUptoSaid : Prop := msgDecodesUptoRow.holds Try.pinned (OpenSpec.upto msgDecodesSpec)

/-- 'isoglosslaw05.MsgExtra', WHERE WHAT IT READS IS OF BULK AT MOST 1048576: true; the input reads as it did. -/
def msgExtraUptoRow : OpenClaim := { program := "ytemhmgpihkemjaa", sum := "3ae4b22f1c68d80da9982afc8b02f5983b5c09d06df45f53ffeca8b11e87f5e1", func := "isogloss/isoglosslaw05.MsgExtra", spec := "msgExtra", unfollowed := true, recurses := true, apart := false, narrowed := true }
def MsgExtraUptoSaid : Prop := msgExtraUptoRow.holds Try.pinned (OpenSpec.upto msgExtraSpec)

/-- 'isoglosslaw05.MsgLong', WHERE WHAT IT READS IS OF BULK AT MOST 1048576: true; the input reads as it did. -/
def msgLongUptoRow : OpenClaim := { program := "ytemhmgpihkemjaa", sum := "3ae4b22f1c68d80da9982afc8b02f5983b5c09d06df45f53ffeca8b11e87f5e1", func := "isogloss/isoglosslaw05.MsgLong", spec := "msgLong", unfollowed := true, recurses := true, apart := false, narrowed := true }
def MsgLongUptoSaid : Prop := msgLongUptoRow.holds Try.pinned (OpenSpec.upto msgLongSpec)

end Rows
end Go.Proofs.Ytemhmgpihkemjaa
