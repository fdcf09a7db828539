/-
  No cell of these rows narrows 'for every input' (looked for: loops, veiled, ifaces, maps, wideKeys, modest, calm, conditions, laid).
  DERIVED. THE GIVEN ROWS OF THIS SEAT. 6 by the template 'for every input the law returns true; each argument reads behind the call as it read before'; 0 by the template 'total and deterministic' (their statements: YthooihkkghfhkaaTotals.lean).
  GIVEN WITH THE SEED: the statements are not yours to turn. If you find one false, say at which input.
  Laid BY PROGRAM, IN A SANDBOX (cutbox-rows.mjs): the forced cells as the released guide's own fill.sh prints them over the translation d81ac53d02bd9155… (all of the seat's roots in one cut). By AI agents, Wed Nov 11 2026. No macro, syntax, notation, axiom, sorry.
-/
import Derived.Test.YthooihkkghfhkaaChecked
import GoSem.Claim
import GoSem.ClaimJoined
import GoSem.ClaimMapViews
import Derived.JoinedTies
import Derived.KernelRfl
namespace Go.Proofs.Ythooihkkghfhkaa
/- THE CELL 'sum', in the pinned program and in every row, IS THE sha256 OF THE DUMP (.gsa) THAT YthooihkkghfhkaaProg.lean LOADS. Nothing in Lean hashes anything: it is a label: what it is worth is what the hold of that sum in a sandbox is worth. -/
noncomputable def Try.pinned : Pinned := { name := "ythooihkkghfhkaa", sum := "d81ac53d02bd9155289122123f8503557b8c1fff43f8baadfc1c5e0fbbd7f85b", checked := Try.checked }
namespace Rows
def none {H : Type} : Left H := { results := [], args := [] }

/-- 'isoglosslaw06.FrameMakes': WHATEVER THE INPUT: true; the input reads as it did. -/
def frameMakesSpec : ChangeSpec := { name := "frameMakes", fn := fun _ => fun
  | [d] => { results := [.lit (.bool true)], args := [d] }
  | _ => none }
def frameMakesRow : OpenClaim := { program := "ythooihkkghfhkaa", sum := "d81ac53d02bd9155289122123f8503557b8c1fff43f8baadfc1c5e0fbbd7f85b", func := "isogloss/isoglosslaw06.FrameMakes", spec := "frameMakes", plainKeys := false, apart := false }
def FrameMakesSaid : Prop := frameMakesRow.holds Try.pinned (OpenSpec.ofChange frameMakesSpec)

/-- ITS FALSE NEIGHBOUR: 'it returns false'. Refute it at one input. -/
def frameMakesWrong : ChangeSpec := { name := "frameMakes", fn := fun _ => fun
  | [d] => { results := [.lit (.bool false)], args := [d] }
  | _ => none }
def FrameMakesWrongFalsely : Prop := frameMakesRow.holds Try.pinned (OpenSpec.ofChange frameMakesWrong)

/-- 'isoglosslaw06.FrameBack': WHATEVER THE INPUT: true; the input reads as it did. -/
def frameBackSpec : ChangeSpec := { name := "frameBack", fn := fun _ => fun
  | [d] => { results := [.lit (.bool true)], args := [d] }
  | _ => none }
def frameBackRow : OpenClaim := { program := "ythooihkkghfhkaa", sum := "d81ac53d02bd9155289122123f8503557b8c1fff43f8baadfc1c5e0fbbd7f85b", func := "isogloss/isoglosslaw06.FrameBack", spec := "frameBack", plainKeys := false, apart := false }
def FrameBackSaid : Prop := frameBackRow.holds Try.pinned (OpenSpec.ofChange frameBackSpec)

/-- ITS FALSE NEIGHBOUR: 'it returns false'. Refute it at one input. -/
def frameBackWrong : ChangeSpec := { name := "frameBack", fn := fun _ => fun
  | [d] => { results := [.lit (.bool false)], args := [d] }
  | _ => none }
def FrameBackWrongFalsely : Prop := frameBackRow.holds Try.pinned (OpenSpec.ofChange frameBackWrong)

/-- 'isoglosslaw04.LzUnpacks': WHATEVER THE INPUT: true; the input reads as it did. -/
def lzUnpacksSpec : ChangeSpec := { name := "lzUnpacks", fn := fun _ => fun
  | [d] => { results := [.lit (.bool true)], args := [d] }
  | _ => none }
def lzUnpacksRow : OpenClaim := { program := "ythooihkkghfhkaa", sum := "d81ac53d02bd9155289122123f8503557b8c1fff43f8baadfc1c5e0fbbd7f85b", func := "isogloss/isoglosslaw04.LzUnpacks", spec := "lzUnpacks", plainKeys := false, apart := false }
def LzUnpacksSaid : Prop := lzUnpacksRow.holds Try.pinned (OpenSpec.ofChange lzUnpacksSpec)

/-- ITS FALSE NEIGHBOUR: 'it returns false'. Refute it at one input. -/
def lzUnpacksWrong : ChangeSpec := { name := "lzUnpacks", fn := fun _ => fun
  | [d] => { results := [.lit (.bool false)], args := [d] }
  | _ => none }
def LzUnpacksWrongFalsely : Prop := lzUnpacksRow.holds Try.pinned (OpenSpec.ofChange lzUnpacksWrong)

/-- 'isoglosslaw04.LzParts': WHATEVER THE INPUT: true; the input reads as it did. -/
def lzPartsSpec : ChangeSpec := { name := "lzParts", fn := fun _ => fun
  | [d1, d2, d3] => { results := [.lit (.bool true)], args := [d1, d2, d3] }
  | _ => none }
def lzPartsRow : OpenClaim := { program := "ythooihkkghfhkaa", sum := "d81ac53d02bd9155289122123f8503557b8c1fff43f8baadfc1c5e0fbbd7f85b", func := "isogloss/isoglosslaw04.LzParts", spec := "lzParts", plainKeys := false, apart := false }
def LzPartsSaid : Prop := lzPartsRow.holds Try.pinned (OpenSpec.ofChange lzPartsSpec)

/-- ITS FALSE NEIGHBOUR: 'it returns false'. Refute it at one input. -/
def lzPartsWrong : ChangeSpec := { name := "lzParts", fn := fun _ => fun
  | [d1, d2, d3] => { results := [.lit (.bool false)], args := [d1, d2, d3] }
  | _ => none }
def LzPartsWrongFalsely : Prop := lzPartsRow.holds Try.pinned (OpenSpec.ofChange lzPartsWrong)

/-- 'isoglosslaw04.LzBack': WHATEVER THE INPUT: true; the input reads as it did. -/
def lzBackSpec : ChangeSpec := { name := "lzBack", fn := fun _ => fun
  | [d1, d2] => { results := [.lit (.bool true)], args := [d1, d2] }
  | _ => none }
def lzBackRow : OpenClaim := { program := "ythooihkkghfhkaa", sum := "d81ac53d02bd9155289122123f8503557b8c1fff43f8baadfc1c5e0fbbd7f85b", func := "isogloss/isoglosslaw04.LzBack", spec := "lzBack", plainKeys := false, apart := false }
def LzBackSaid : Prop := lzBackRow.holds Try.pinned (OpenSpec.ofChange lzBackSpec)

/-- ITS FALSE NEIGHBOUR: 'it returns false'. Refute it at one input. -/
def lzBackWrong : ChangeSpec := { name := "lzBack", fn := fun _ => fun
  | [d1, d2] => { results := [.lit (.bool false)], args := [d1, d2] }
  | _ => none }
def LzBackWrongFalsely : Prop := lzBackRow.holds Try.pinned (OpenSpec.ofChange lzBackWrong)

/-- 'isoglosslaw04.LzLong': WHATEVER THE INPUT: true; the input reads as it did. -/
def lzLongSpec : ChangeSpec := { name := "lzLong", fn := fun _ => fun
  | [d1, d2] => { results := [.lit (.bool true)], args := [d1, d2] }
  | _ => none }
def lzLongRow : OpenClaim := { program := "ythooihkkghfhkaa", sum := "d81ac53d02bd9155289122123f8503557b8c1fff43f8baadfc1c5e0fbbd7f85b", func := "isogloss/isoglosslaw04.LzLong", spec := "lzLong", plainKeys := false, apart := false }
def LzLongSaid : Prop := lzLongRow.holds Try.pinned (OpenSpec.ofChange lzLongSpec)

/-- ITS FALSE NEIGHBOUR: 'it returns false'. Refute it at one input. -/
def lzLongWrong : ChangeSpec := { name := "lzLong", fn := fun _ => fun
  | [d1, d2] => { results := [.lit (.bool false)], args := [d1, d2] }
  | _ => none }
def LzLongWrongFalsely : Prop := lzLongRow.holds Try.pinned (OpenSpec.ofChange lzLongWrong)

/- THE SECOND FORM. 'bulk': how many values and letters a reading holds, each counted each time it is reached (what is shared counts as often as it is met; a slice's spare places count too). A statement '..UptoSaid' is the law's where the arguments, and the package variables that the reading takes, are together of bulk at most 1048576: NARROWER than '..Said'. Prove '..Said' where nothing that the law and all that it calls make is longer than what came in: it says more and counts as full. Else prove '..UptoSaid'. A law counts once. -/
mutual
def uptoBulk {H : Type} : DataW H → Nat
  | .lit (.string bytes) => bytes.length + 1
  | .lit _ => 1
  | .nil => 1
  | .ptr d => uptoBulk d + 1
  | .slice elems spare => uptoBulkAll elems + uptoBulkAll spare + 1
  | .agg parts => uptoBulkAll parts + 1
  | .iface _ d => uptoBulk d + 1
  | .map entries => uptoBulkEntries entries + 1
  | .held _ => 1
def uptoBulkAll {H : Type} : List (DataW H) → Nat
  | [] => 0
  | d :: r => uptoBulk d + uptoBulkAll r
def uptoBulkEntries {H : Type} : List (Lit × DataW H) → Nat
  | [] => 0
  | x :: r => uptoBulkEntry x + uptoBulkEntries r
def uptoBulkEntry {H : Type} : Lit × DataW H → Nat
  | (.string bytes, d) => bytes.length + uptoBulk d + 1
  | (_, d) => uptoBulk d + 1
 end
def uptoSmall : (H : Type) → List (DataW H) → Bool := fun _ ds => decide (uptoBulkAll ds ≤ 1048576)
def OpenSpec.upto (s : _root_.Go.ChangeSpec) : _root_.Go.OpenSpec := { _root_.Go.OpenSpec.ofChange s with cond := some uptoSmall }

/-- 'isoglosslaw06.FrameMakes', WHERE WHAT IT READS IS OF BULK AT MOST 1048576: true; the input reads as it did. -/
def frameMakesUptoRow : OpenClaim := { program := "ythooihkkghfhkaa", sum := "d81ac53d02bd9155289122123f8503557b8c1fff43f8baadfc1c5e0fbbd7f85b", func := "isogloss/isoglosslaw06.FrameMakes", spec := "frameMakes", plainKeys := false, apart := false, narrowed := true }
def FrameMakesUptoSaid : Prop := frameMakesUptoRow.holds Try.pinned (OpenSpec.upto frameMakesSpec)

/-- 'isoglosslaw06.FrameBack', WHERE WHAT IT READS IS OF BULK AT MOST 1048576: true; the input reads as it did. -/
def frameBackUptoRow : OpenClaim := { program := "ythooihkkghfhkaa", sum := "d81ac53d02bd9155289122123f8503557b8c1fff43f8baadfc1c5e0fbbd7f85b", func := "isogloss/isoglosslaw06.FrameBack", spec := "frameBack", plainKeys := false, apart := false, narrowed := true }
def FrameBackUptoSaid : Prop := frameBackUptoRow.holds Try.pinned (OpenSpec.upto frameBackSpec)

/-- 'isoglosslaw04.LzUnpacks', WHERE WHAT IT READS IS OF BULK AT MOST 1048576: true; the input reads as it did. -/
def lzUnpacksUptoRow : OpenClaim := { program := "ythooihkkghfhkaa", sum := "d81ac53d02bd9155289122123f8503557b8c1fff43f8baadfc1c5e0fbbd7f85b", func := "isogloss/isoglosslaw04.LzUnpacks", spec := "lzUnpacks", plainKeys := false, apart := false, narrowed := true }
def LzUnpacksUptoSaid : Prop := lzUnpacksUptoRow.holds Try.pinned (OpenSpec.upto lzUnpacksSpec)

/-- 'isoglosslaw04.LzParts', WHERE WHAT IT READS IS OF BULK AT MOST 1048576: true; the input reads as it did. -/
def lzPartsUptoRow : OpenClaim := { program := "ythooihkkghfhkaa", sum := "d81ac53d02bd9155289122123f8503557b8c1fff43f8baadfc1c5e0fbbd7f85b", func := "isogloss/isoglosslaw04.LzParts", spec := "lzParts", plainKeys := false, apart := false, narrowed := true }
def LzPartsUptoSaid : Prop := lzPartsUptoRow.holds Try.pinned (OpenSpec.upto lzPartsSpec)

/-- 'isoglosslaw04.LzBack', WHERE WHAT IT READS IS OF BULK AT MOST 1048576: true; the input reads as it did. -/
def lzBackUptoRow : OpenClaim := { program := "ythooihkkghfhkaa", sum := "d81ac53d02bd9155289122123f8503557b8c1fff43f8baadfc1c5e0fbbd7f85b", func := "isogloss/isoglosslaw04.LzBack", spec := "lzBack", plainKeys := false, apart := false, narrowed := true }
def LzBackUptoSaid : Prop := lzBackUptoRow.holds Try.pinned (OpenSpec.upto lzBackSpec)

/-- 'isoglosslaw04.LzLong', WHERE WHAT IT READS IS OF BULK AT MOST 1048576: true; the input reads as it did. -/
def lzLongUptoRow : OpenClaim := { program := "ythooihkkghfhkaa", sum := "d81ac53d02bd9155289122123f8503557b8c1fff43f8baadfc1c5e0fbbd7f85b", func := "isogloss/isoglosslaw04.LzLong", spec := "lzLong", plainKeys := false, apart := false, narrowed := true }
def LzLongUptoSaid : Prop := lzLongUptoRow.holds Try.pinned (OpenSpec.upto lzLongSpec)

end Rows
end Go.Proofs.Ythooihkkghfhkaa
