/-
  NARROWER THAN 'FOR EVERY INPUT', by the rows' own cells (each row's printed sentence says how): KeysFirst: laid · KeysOrder: laid · KeysItems: laid · KeysEncodes: laid · KeysDecodes: laid.
  DERIVED. THE GIVEN ROWS OF THIS SEAT. 5 by the template 'for every input the law returns true; each argument reads behind the call as it read before'; 0 by the template 'total and deterministic' (their statements: YtbbjnnbabikefaaDoorTotals.lean).
  GIVEN WITH THE SEED: the statements are not yours to turn. If you find one false, say at which input.
  Laid BY PROGRAM, IN A SANDBOX (cutbox-rows.mjs): the forced cells as the released guide's own fill.sh prints them over the translation 27efe9cc6f8d381d… (all of the seat's roots in one cut). By AI agents, Wed Nov 11 2026. No macro, syntax, notation, axiom, sorry.
-/
import Derived.Test.YtbbjnnbabikefaaDoorChecked
import GoSem.PinnedTables
import GoSem.Claim
import GoSem.ClaimJoined
import GoSem.ClaimMapViews
import Derived.JoinedTies
import Derived.KernelRfl
namespace Go.Proofs.YtbbjnnbabikefaaDoor
/- THE CELL 'sum', in the pinned program and in every row, IS THE sha256 OF THE DUMP (.gsa) THAT YtbbjnnbabikefaaDoorProg.lean LOADS. Nothing in Lean hashes anything: it is a label: what it is worth is what the hold of that sum in a sandbox is worth. -/
noncomputable def Tryd.pinned : Pinned := { name := "ytbbjnnbabikefaadoor", sum := "27efe9cc6f8d381df859071514f6f3eda3538ca5198346d5c3d0ec538a6efb3a", checked := Tryd.checked }
namespace Rows
def none {H : Type} : Left H := { results := [], args := [] }

/- WHAT THE LISTED PACKAGE-LEVEL VARIABLES READ AS WHEN THE CALL BEGINS. Each datum BY PROGRAM (the guide's laid-datum.mjs) off the statement by which the dump's own 'gosem.cut.vars' lays the variable. In a bare row this is a premise. The card (YtbbjnnbabikefaaDoorCards.lean) ties it to the program's text. -/
def laid_unicode_utf8_acceptRanges {H : Type} : DataW H := .agg [.agg [.lit (.int .u8 128), .lit (.int .u8 191)], .agg [.lit (.int .u8 160), .lit (.int .u8 191)], .agg [.lit (.int .u8 128), .lit (.int .u8 159)], .agg [.lit (.int .u8 144), .lit (.int .u8 191)], .agg [.lit (.int .u8 128), .lit (.int .u8 143)], .agg [.lit (.int .u8 0), .lit (.int .u8 0)], .agg [.lit (.int .u8 0), .lit (.int .u8 0)], .agg [.lit (.int .u8 0), .lit (.int .u8 0)], .agg [.lit (.int .u8 0), .lit (.int .u8 0)], .agg [.lit (.int .u8 0), .lit (.int .u8 0)], .agg [.lit (.int .u8 0), .lit (.int .u8 0)], .agg [.lit (.int .u8 0), .lit (.int .u8 0)], .agg [.lit (.int .u8 0), .lit (.int .u8 0)], .agg [.lit (.int .u8 0), .lit (.int .u8 0)], .agg [.lit (.int .u8 0), .lit (.int .u8 0)], .agg [.lit (.int .u8 0), .lit (.int .u8 0)]]
/-- One of Go's own tables, pinned by name: the form's constant. -/
def laid_unicode_utf8_first : DataW Unit := Go.Pinned.utf8First

/-- 'isoglosslaw03.KeysFirst': WHATEVER THE INPUT: true; the input reads as it did. -/
def keysFirstSpec : ChangeSpec := { name := "keysFirst", fn := fun _ => fun
  | [d1, d2] => { results := [.lit (.bool true)], args := [d1, d2] }
  | _ => none }
def keysFirstRow : OpenClaim := { program := "ytbbjnnbabikefaadoor", sum := "27efe9cc6f8d381df859071514f6f3eda3538ca5198346d5c3d0ec538a6efb3a", func := "isogloss/isoglosslaw03.KeysFirst", spec := "keysFirst", inPlace := ["internal/bytealg.CountString", "internal/bytealg.IndexByteString", "internal/bytealg.IndexString", "internal/abi.NoEscape", "internal/bytealg.MakeNoZero"], named := ["internal/bytealg.MaxLen", "unicode/utf8.first", "unicode/utf8.acceptRanges"], apart := false, laid := [("unicode/utf8.acceptRanges", laid_unicode_utf8_acceptRanges), ("unicode/utf8.first", laid_unicode_utf8_first)] }
def KeysFirstSaid : Prop := keysFirstRow.holds Tryd.pinned (OpenSpec.ofChange keysFirstSpec)

/-- ITS FALSE NEIGHBOUR: 'it returns false'. Refute it at one input. -/
def keysFirstWrong : ChangeSpec := { name := "keysFirst", fn := fun _ => fun
  | [d1, d2] => { results := [.lit (.bool false)], args := [d1, d2] }
  | _ => none }
def KeysFirstWrongFalsely : Prop := keysFirstRow.holds Tryd.pinned (OpenSpec.ofChange keysFirstWrong)

/-- 'isoglosslaw03.KeysOrder': WHATEVER THE INPUT: true; the input reads as it did. -/
def keysOrderSpec : ChangeSpec := { name := "keysOrder", fn := fun _ => fun
  | [d1, d2] => { results := [.lit (.bool true)], args := [d1, d2] }
  | _ => none }
def keysOrderRow : OpenClaim := { program := "ytbbjnnbabikefaadoor", sum := "27efe9cc6f8d381df859071514f6f3eda3538ca5198346d5c3d0ec538a6efb3a", func := "isogloss/isoglosslaw03.KeysOrder", spec := "keysOrder", inPlace := ["internal/bytealg.CountString", "internal/bytealg.IndexByteString", "internal/bytealg.IndexString", "internal/abi.NoEscape", "internal/bytealg.MakeNoZero", "internal/bytealg.abigen_runtime_cmpstring"], named := ["internal/bytealg.MaxLen", "unicode/utf8.first", "unicode/utf8.acceptRanges"], apart := false, laid := [("unicode/utf8.acceptRanges", laid_unicode_utf8_acceptRanges), ("unicode/utf8.first", laid_unicode_utf8_first)] }
def KeysOrderSaid : Prop := keysOrderRow.holds Tryd.pinned (OpenSpec.ofChange keysOrderSpec)

/-- ITS FALSE NEIGHBOUR: 'it returns false'. Refute it at one input. -/
def keysOrderWrong : ChangeSpec := { name := "keysOrder", fn := fun _ => fun
  | [d1, d2] => { results := [.lit (.bool false)], args := [d1, d2] }
  | _ => none }
def KeysOrderWrongFalsely : Prop := keysOrderRow.holds Tryd.pinned (OpenSpec.ofChange keysOrderWrong)

/-- 'isoglosslaw03.KeysItems': WHATEVER THE INPUT: true; the input reads as it did. -/
def keysItemsSpec : ChangeSpec := { name := "keysItems", fn := fun _ => fun
  | [d1, d2] => { results := [.lit (.bool true)], args := [d1, d2] }
  | _ => none }
def keysItemsRow : OpenClaim := { program := "ytbbjnnbabikefaadoor", sum := "27efe9cc6f8d381df859071514f6f3eda3538ca5198346d5c3d0ec538a6efb3a", func := "isogloss/isoglosslaw03.KeysItems", spec := "keysItems", inPlace := ["internal/bytealg.CountString", "internal/bytealg.IndexByteString", "internal/bytealg.IndexString", "internal/abi.NoEscape", "internal/bytealg.MakeNoZero", "internal/bytealg.abigen_runtime_cmpstring"], named := ["internal/bytealg.MaxLen", "unicode/utf8.first", "unicode/utf8.acceptRanges"], apart := false, laid := [("unicode/utf8.acceptRanges", laid_unicode_utf8_acceptRanges), ("unicode/utf8.first", laid_unicode_utf8_first)] }
def KeysItemsSaid : Prop := keysItemsRow.holds Tryd.pinned (OpenSpec.ofChange keysItemsSpec)

/-- ITS FALSE NEIGHBOUR: 'it returns false'. Refute it at one input. -/
def keysItemsWrong : ChangeSpec := { name := "keysItems", fn := fun _ => fun
  | [d1, d2] => { results := [.lit (.bool false)], args := [d1, d2] }
  | _ => none }
def KeysItemsWrongFalsely : Prop := keysItemsRow.holds Tryd.pinned (OpenSpec.ofChange keysItemsWrong)

/-- 'isoglosslaw03.KeysEncodes': WHATEVER THE INPUT: true; the input reads as it did. -/
def keysEncodesSpec : ChangeSpec := { name := "keysEncodes", fn := fun _ => fun
  | [d] => { results := [.lit (.bool true)], args := [d] }
  | _ => none }
def keysEncodesRow : OpenClaim := { program := "ytbbjnnbabikefaadoor", sum := "27efe9cc6f8d381df859071514f6f3eda3538ca5198346d5c3d0ec538a6efb3a", func := "isogloss/isoglosslaw03.KeysEncodes", spec := "keysEncodes", inPlace := ["internal/bytealg.CountString", "internal/bytealg.IndexByteString", "internal/bytealg.IndexString", "internal/abi.NoEscape", "internal/bytealg.MakeNoZero"], named := ["internal/bytealg.MaxLen", "unicode/utf8.first", "unicode/utf8.acceptRanges"], apart := false, laid := [("unicode/utf8.acceptRanges", laid_unicode_utf8_acceptRanges), ("unicode/utf8.first", laid_unicode_utf8_first)] }
def KeysEncodesSaid : Prop := keysEncodesRow.holds Tryd.pinned (OpenSpec.ofChange keysEncodesSpec)

/-- ITS FALSE NEIGHBOUR: 'it returns false'. Refute it at one input. -/
def keysEncodesWrong : ChangeSpec := { name := "keysEncodes", fn := fun _ => fun
  | [d] => { results := [.lit (.bool false)], args := [d] }
  | _ => none }
def KeysEncodesWrongFalsely : Prop := keysEncodesRow.holds Tryd.pinned (OpenSpec.ofChange keysEncodesWrong)

/-- 'isoglosslaw03.KeysDecodes': WHATEVER THE INPUT: true; the input reads as it did. -/
def keysDecodesSpec : ChangeSpec := { name := "keysDecodes", fn := fun _ => fun
  | [d] => { results := [.lit (.bool true)], args := [d] }
  | _ => none }
def keysDecodesRow : OpenClaim := { program := "ytbbjnnbabikefaadoor", sum := "27efe9cc6f8d381df859071514f6f3eda3538ca5198346d5c3d0ec538a6efb3a", func := "isogloss/isoglosslaw03.KeysDecodes", spec := "keysDecodes", inPlace := ["internal/bytealg.CountString", "internal/bytealg.IndexByteString", "internal/bytealg.IndexString", "internal/abi.NoEscape", "internal/bytealg.MakeNoZero"], named := ["internal/bytealg.MaxLen", "unicode/utf8.first", "unicode/utf8.acceptRanges"], apart := false, laid := [("unicode/utf8.acceptRanges", laid_unicode_utf8_acceptRanges), ("unicode/utf8.first", laid_unicode_utf8_first)] }
def KeysDecodesSaid : Prop := keysDecodesRow.holds Tryd.pinned (OpenSpec.ofChange keysDecodesSpec)

/-- ITS FALSE NEIGHBOUR: 'it returns false'. Refute it at one input. -/
def keysDecodesWrong : ChangeSpec := { name := "keysDecodes", fn := fun _ => fun
  | [d] => { results := [.lit (.bool false)], args := [d] }
  | _ => none }
def KeysDecodesWrongFalsely : Prop := keysDecodesRow.holds Tryd.pinned (OpenSpec.ofChange keysDecodesWrong)

/- THE SECOND FORM. 'bulk': how many values and letters a reading holds, each counted each time it is reached (what is shared counts as often as it is met; a slice's spare places count too). A statement '..UptoSaid' is the law's where the arguments, and the package variables that the reading takes, are together of bulk at most 1048576: NARROWER than '..Said'. Prove '..Said' where nothing that the law and all that it calls make is longer than what came in: it says more and counts as full. Else prove '..UptoSaid'. A law counts once. -/
mutual
def uptoBulk {H : Type} : DataW H → Nat
  | .lit (.string bytes) => bytes.length + 1
  | .lit _ => 1
  | .nil => 1
  | .ptr d => uptoBulk d + 1
  | .slice elems spare => uptoBulkAll elems + uptoBulkAll spare + 1
  | .agg parts => uptoBulkAll parts + 1
  | .iface _ d => uptoBulk d + 1
  | .map entries => uptoBulkEntries entries + 1
  | .held _ => 1
def uptoBulkAll {H : Type} : List (DataW H) → Nat
  | [] => 0
  | d :: r => uptoBulk d + uptoBulkAll r
def uptoBulkEntries {H : Type} : List (Lit × DataW H) → Nat
  | [] => 0
  | x :: r => uptoBulkEntry x + uptoBulkEntries r
def uptoBulkEntry {H : Type} : Lit × DataW H → Nat
  | (.string bytes, d) => bytes.length + uptoBulk d + 1
  | (_, d) => uptoBulk d + 1
 end
def uptoSmall : (H : Type) → List (DataW H) → Bool := fun _ ds => decide (uptoBulkAll ds ≤ 1048576)
def OpenSpec.upto (s : _root_.Go.ChangeSpec) : _root_.Go.OpenSpec := { _root_.Go.OpenSpec.ofChange s with cond := some uptoSmall }

/-- 'isoglosslaw03.KeysFirst', WHERE WHAT IT READS IS OF BULK AT MOST 1048576: true; the input reads as it did. -/
def keysFirstUptoRow : OpenClaim := { program := "ytbbjnnbabikefaadoor", sum := "27efe9cc6f8d381df859071514f6f3eda3538ca5198346d5c3d0ec538a6efb3a", func := "isogloss/isoglosslaw03.KeysFirst", spec := "keysFirst", inPlace := ["internal/bytealg.CountString", "internal/bytealg.IndexByteString", "internal/bytealg.IndexString", "internal/abi.NoEscape", "internal/bytealg.MakeNoZero"], named := ["internal/bytealg.MaxLen", "unicode/utf8.first", "unicode/utf8.acceptRanges"], apart := false, laid := [("unicode/utf8.acceptRanges", laid_unicode_utf8_acceptRanges), ("unicode/utf8.first", laid_unicode_utf8_first)], narrowed := true }
def KeysFirstUptoSaid : Prop := keysFirstUptoRow.holds Tryd.pinned (OpenSpec.upto keysFirstSpec)

/-- 'isoglosslaw03.KeysOrder', WHERE WHAT IT READS IS OF BULK AT MOST 1048576: true; the input reads as it did. -/
def keysOrderUptoRow : OpenClaim := { program := "ytbbjnnbabikefaadoor", sum := "27efe9cc6f8d381df859071514f6f3eda3538ca5198346d5c3d0ec538a6efb3a", func := "isogloss/isoglosslaw03.KeysOrder", spec := "keysOrder", inPlace := ["internal/bytealg.CountString", "internal/bytealg.IndexByteString", "internal/bytealg.IndexString", "internal/abi.NoEscape", "internal/bytealg.MakeNoZero", "internal/bytealg.abigen_runtime_cmpstring"], named := ["internal/bytealg.MaxLen", "unicode/utf8.first", "unicode/utf8.acceptRanges"], apart := false, laid := [("unicode/utf8.acceptRanges", laid_unicode_utf8_acceptRanges), ("unicode/utf8.first", laid_unicode_utf8_first)], narrowed := true }
def KeysOrderUptoSaid : Prop := keysOrderUptoRow.holds Tryd.pinned (OpenSpec.upto keysOrderSpec)

/-- 'isoglosslaw03.KeysItems', WHERE WHAT IT READS IS OF BULK AT MOST 1048576: true; the input reads as it did. -/
def keysItemsUptoRow : OpenClaim := { program := "ytbbjnnbabikefaadoor", sum := "27efe9cc6f8d381df859071514f6f3eda3538ca5198346d5c3d0ec538a6efb3a", func := "isogloss/isoglosslaw03.KeysItems", spec := "keysItems", inPlace := ["internal/bytealg.CountString", "internal/bytealg.IndexByteString", "internal/bytealg.IndexString", "internal/abi.NoEscape", "internal/bytealg.MakeNoZero", "internal/bytealg.abigen_runtime_cmpstring"], named := ["internal/bytealg.MaxLen", "unicode/utf8.first", "unicode/utf8.acceptRanges"], apart := false, laid := [("unicode/utf8.acceptRanges", laid_unicode_utf8_acceptRanges), ("unicode/utf8.first", laid_unicode_utf8_first)], narrowed := true }
def KeysItemsUptoSaid : Prop := keysItemsUptoRow.holds Tryd.pinned (OpenSpec.upto keysItemsSpec)

/-- 'isoglosslaw03.KeysEncodes', WHERE WHAT IT READS IS OF BULK AT MOST 1048576: true; the input reads as it did. -/
def keysEncodesUptoRow : OpenClaim := { program := "ytbbjnnbabikefaadoor", sum := "27efe9cc6f8d381df859071514f6f3eda3538ca5198346d5c3d0ec538a6efb3a", func := "isogloss/isoglosslaw03.KeysEncodes", spec := "keysEncodes", inPlace := ["internal/bytealg.CountString", "internal/bytealg.IndexByteString", "internal/bytealg.IndexString", "internal/abi.NoEscape", "internal/bytealg.MakeNoZero"], named := ["internal/bytealg.MaxLen", "unicode/utf8.first", "unicode/utf8.acceptRanges"], apart := false, laid := [("unicode/utf8.acceptRanges", laid_unicode_utf8_acceptRanges), ("unicode/utf8.first", laid_unicode_utf8_first)], narrowed := true }
def KeysEncodesUptoSaid : Prop := keysEncodesUptoRow.holds Tryd.pinned (OpenSpec.upto keysEncodesSpec)

/-- 'isoglosslaw03.KeysDecodes', WHERE WHAT IT READS IS OF BULK AT MOST 1048576: true; the input reads as it did. -/
def keysDecodesUptoRow : OpenClaim := { program := "ytbbjnnbabikefaadoor", sum := "27efe9cc6f8d381df859071514f6f3eda3538ca5198346d5c3d0ec538a6efb3a", func := "isogloss/isoglosslaw03.KeysDecodes", spec := "keysDecodes", inPlace := ["internal/bytealg.CountString", "internal/bytealg.IndexByteString", "internal/bytealg.IndexString", "internal/abi.NoEscape", "internal/bytealg.MakeNoZero"], named := ["internal/bytealg.MaxLen", "unicode/utf8.first", "unicode/utf8.acceptRanges"], apart := false, laid := [("unicode/utf8.acceptRanges", laid_unicode_utf8_acceptRanges), ("unicode/utf8.first", laid_unicode_utf8_first)], narrowed := true }
def KeysDecodesUptoSaid : Prop := keysDecodesUptoRow.holds Tryd.pinned (OpenSpec.upto keysDecodesSpec)

end Rows
end Go.Proofs.YtbbjnnbabikefaaDoor
