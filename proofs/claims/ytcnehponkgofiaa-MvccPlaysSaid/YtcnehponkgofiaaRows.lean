/-
  No cell of these rows narrows 'for every input' (looked for: loops, veiled, ifaces, maps, wideKeys, modest, calm, conditions, laid).
  DERIVED. THE GIVEN ROWS OF THIS SEAT. 4 by the template 'for every input the law returns true; each argument reads behind the call as it read before'; 0 by the template 'total and deterministic' (their statements: YtcnehponkgofiaaTotals.lean).
  GIVEN WITH THE SEED: the statements are not yours to turn. If you find one false, say at which input.
  Laid BY PROGRAM, IN A SANDBOX (cutbox-rows.mjs): the forced cells as the released guide's own fill.sh prints them over the translation 605306dd15088a53… (all of the seat's roots in one cut). By AI agents, Wed Nov 11 2026. No macro, syntax, notation, axiom, sorry.
-/
import Derived.Test.YtcnehponkgofiaaChecked
import GoSem.Claim
import GoSem.ClaimJoined
import GoSem.ClaimMapViews
import Derived.JoinedTies
import Derived.KernelRfl
namespace Go.Proofs.Ytcnehponkgofiaa
/- THE CELL 'sum', in the pinned program and in every row, IS THE sha256 OF THE DUMP (.gsa) THAT YtcnehponkgofiaaProg.lean LOADS. Nothing in Lean hashes anything: it is a label: what it is worth is what the hold of that sum in a sandbox is worth. -/
noncomputable def Try.pinned : Pinned := { name := "ytcnehponkgofiaa", sum := "605306dd15088a532a4ffd040dfcf877f36256c887873b73b2f335ec05655bb1", checked := Try.checked }
namespace Rows
def none {H : Type} : Left H := { results := [], args := [] }

/-- 'isoglosslaw11.MvccPast': WHATEVER THE INPUT: true; the input reads as it did. -/
def mvccPastSpec : ChangeSpec := { name := "mvccPast", fn := fun _ => fun
  | [d1, d2, d3] => { results := [.lit (.bool true)], args := [d1, d2, d3] }
  | _ => none }
def mvccPastRow : OpenClaim := { program := "ytcnehponkgofiaa", sum := "605306dd15088a532a4ffd040dfcf877f36256c887873b73b2f335ec05655bb1", func := "isogloss/isoglosslaw11.MvccPast", spec := "mvccPast", inPlace := ["internal/bytealg.abigen_runtime_cmpstring", "slices.overlaps[isogloss/block.Entry]"], unfollowed := true, recurses := true, plainKeys := false, apart := false }
def MvccPastSaid : Prop := mvccPastRow.holds Try.pinned (OpenSpec.ofChange mvccPastSpec)

/-- ITS FALSE NEIGHBOUR: 'it returns false'. Refute it at one input. -/
def mvccPastWrong : ChangeSpec := { name := "mvccPast", fn := fun _ => fun
  | [d1, d2, d3] => { results := [.lit (.bool false)], args := [d1, d2, d3] }
  | _ => none }
def MvccPastWrongFalsely : Prop := mvccPastRow.holds Try.pinned (OpenSpec.ofChange mvccPastWrong)

/-- 'isoglosslaw11.MvccPlays': WHATEVER THE INPUT: true; the input reads as it did. -/
def mvccPlaysSpec : ChangeSpec := { name := "mvccPlays", fn := fun _ => fun
  | [d1, d2] => { results := [.lit (.bool true)], args := [d1, d2] }
  | _ => none }
def mvccPlaysRow : OpenClaim := { program := "ytcnehponkgofiaa", sum := "605306dd15088a532a4ffd040dfcf877f36256c887873b73b2f335ec05655bb1", func := "isogloss/isoglosslaw11.MvccPlays", spec := "mvccPlays", inPlace := ["internal/bytealg.abigen_runtime_cmpstring", "slices.overlaps[isogloss/block.Entry]"], unfollowed := true, recurses := true, plainKeys := false, apart := false }
def MvccPlaysSaid : Prop := mvccPlaysRow.holds Try.pinned (OpenSpec.ofChange mvccPlaysSpec)

/-- ITS FALSE NEIGHBOUR: 'it returns false'. Refute it at one input. -/
def mvccPlaysWrong : ChangeSpec := { name := "mvccPlays", fn := fun _ => fun
  | [d1, d2] => { results := [.lit (.bool false)], args := [d1, d2] }
  | _ => none }
def MvccPlaysWrongFalsely : Prop := mvccPlaysRow.holds Try.pinned (OpenSpec.ofChange mvccPlaysWrong)

/-- 'isoglosslaw11.MvccBad': WHATEVER THE INPUT: true; the input reads as it did. -/
def mvccBadSpec : ChangeSpec := { name := "mvccBad", fn := fun _ => fun
  | [d1, d2] => { results := [.lit (.bool true)], args := [d1, d2] }
  | _ => none }
def mvccBadRow : OpenClaim := { program := "ytcnehponkgofiaa", sum := "605306dd15088a532a4ffd040dfcf877f36256c887873b73b2f335ec05655bb1", func := "isogloss/isoglosslaw11.MvccBad", spec := "mvccBad", inPlace := ["internal/bytealg.abigen_runtime_cmpstring", "slices.overlaps[isogloss/block.Entry]", "internal/abi.NoEscape"], unfollowed := true, recurses := true, plainKeys := false, apart := false }
def MvccBadSaid : Prop := mvccBadRow.holds Try.pinned (OpenSpec.ofChange mvccBadSpec)

/-- ITS FALSE NEIGHBOUR: 'it returns false'. Refute it at one input. -/
def mvccBadWrong : ChangeSpec := { name := "mvccBad", fn := fun _ => fun
  | [d1, d2] => { results := [.lit (.bool false)], args := [d1, d2] }
  | _ => none }
def MvccBadWrongFalsely : Prop := mvccBadRow.holds Try.pinned (OpenSpec.ofChange mvccBadWrong)

/-- 'isoglosslaw11.MvccLoads': WHATEVER THE INPUT: true; the input reads as it did. -/
def mvccLoadsSpec : ChangeSpec := { name := "mvccLoads", fn := fun _ => fun
  | [d1, d2] => { results := [.lit (.bool true)], args := [d1, d2] }
  | _ => none }
def mvccLoadsRow : OpenClaim := { program := "ytcnehponkgofiaa", sum := "605306dd15088a532a4ffd040dfcf877f36256c887873b73b2f335ec05655bb1", func := "isogloss/isoglosslaw11.MvccLoads", spec := "mvccLoads", inPlace := ["internal/bytealg.abigen_runtime_cmpstring", "slices.overlaps[isogloss/block.Entry]", "internal/abi.NoEscape"], unfollowed := true, recurses := true, plainKeys := false, apart := false }
def MvccLoadsSaid : Prop := mvccLoadsRow.holds Try.pinned (OpenSpec.ofChange mvccLoadsSpec)

/-- ITS FALSE NEIGHBOUR: 'it returns false'. Refute it at one input. -/
def mvccLoadsWrong : ChangeSpec := { name := "mvccLoads", fn := fun _ => fun
  | [d1, d2] => { results := [.lit (.bool false)], args := [d1, d2] }
  | _ => none }
def MvccLoadsWrongFalsely : Prop := mvccLoadsRow.holds Try.pinned (OpenSpec.ofChange mvccLoadsWrong)

/- THE SECOND FORM. 'bulk': how many values and letters a reading holds, each counted each time it is reached (what is shared counts as often as it is met; a slice's spare places count too). A statement '..UptoSaid' is the law's where the arguments, and the package variables that the reading takes, are together of bulk at most 1048576: NARROWER than '..Said'. Prove '..Said' where nothing that the law and all that it calls make is longer than what came in: it says more and counts as full. Else prove '..UptoSaid'. A law counts once. -/
mutual
def uptoBulk {H : Type} : DataW H → Nat
  | .lit (.string bytes) => bytes.length + 1
  | .lit _ => 1
  | .nil => 1
  | .ptr d => uptoBulk d + 1
  | .slice elems spare => uptoBulkAll elems + uptoBulkAll spare + 1
  | .agg parts => uptoBulkAll parts + 1
  | .iface _ d => uptoBulk d + 1
  | .map entries => uptoBulkEntries entries + 1
  | .held _ => 1
def uptoBulkAll {H : Type} : List (DataW H) → Nat
  | [] => 0
  | d :: r => uptoBulk d + uptoBulkAll r
def uptoBulkEntries {H : Type} : List (Lit × DataW H) → Nat
  | [] => 0
  | x :: r => uptoBulkEntry x + uptoBulkEntries r
def uptoBulkEntry {H : Type} : Lit × DataW H → Nat
  | (.string bytes, d) => bytes.length + uptoBulk d + 1
  | (_, d) => uptoBulk d + 1
 end
def uptoSmall : (H : Type) → List (DataW H) → Bool := fun _ ds => decide (uptoBulkAll ds ≤ 1048576)
def OpenSpec.upto (s : _root_.Go.ChangeSpec) : _root_.Go.OpenSpec := { _root_.Go.OpenSpec.ofChange s with cond := some uptoSmall }

/-- 'isoglosslaw11.MvccPast', WHERE WHAT IT READS IS OF BULK AT MOST 1048576: true; the input reads as it did. -/
def mvccPastUptoRow : OpenClaim := { program := "ytcnehponkgofiaa", sum := "605306dd15088a532a4ffd040dfcf877f36256c887873b73b2f335ec05655bb1", func := "isogloss/isoglosslaw11.MvccPast", spec := "mvccPast", inPlace := ["internal/bytealg.abigen_runtime_cmpstring", "slices.overlaps[isogloss/block.Entry]"], unfollowed := true, recurses := true, plainKeys := false, apart := false, narrowed := true }
def MvccPastUptoSaid : Prop := mvccPastUptoRow.holds Try.pinned (OpenSpec.upto mvccPastSpec)

/-- 'isoglosslaw11.MvccPlays', WHERE WHAT IT READS IS OF BULK AT MOST 1048576: true; the input reads as it did. -/
def mvccPlaysUptoRow : OpenClaim := { program := "ytcnehponkgofiaa", sum := "605306dd15088a532a4ffd040dfcf877f36256c887873b73b2f335ec05655bb1", func := "isogloss/isoglosslaw11.MvccPlays", spec := "mvccPlays", inPlace := ["internal/bytealg.abigen_runtime_cmpstring", "slices.overlaps[isogloss/block.Entry]"], unfollowed := true, recurses := true, plainKeys := false, apart := false, narrowed := true }
def MvccPlaysUptoSaid : Prop := mvccPlaysUptoRow.holds Try.pinned (OpenSpec.upto mvccPlaysSpec)

/-- 'isoglosslaw11.MvccBad', WHERE WHAT IT READS IS OF BULK AT MOST 1048576: true; the input reads as it did. -/
def mvccBadUptoRow : OpenClaim := { program := "ytcnehponkgofiaa", sum := "605306dd15088a532a4ffd040dfcf877f36256c887873b73b2f335ec05655bb1", func := "isogloss/isoglosslaw11.MvccBad", spec := "mvccBad", inPlace := ["internal/bytealg.abigen_runtime_cmpstring", "slices.overlaps[isogloss/block.Entry]", "internal/abi.NoEscape"], unfollowed := true, recurses := true, plainKeys := false, apart := false, narrowed := true }
def MvccBadUptoSaid : Prop := mvccBadUptoRow.holds Try.pinned (OpenSpec.upto mvccBadSpec)

/-- 'isoglosslaw11.MvccLoads', WHERE WHAT IT READS IS OF BULK AT MOST 1048576: true; the input reads as it did. -/
def mvccLoadsUptoRow : OpenClaim := { program := "ytcnehponkgofiaa", sum := "605306dd15088a532a4ffd040dfcf877f36256c887873b73b2f335ec05655bb1", func := "isogloss/isoglosslaw11.MvccLoads", spec := "mvccLoads", inPlace := ["internal/bytealg.abigen_runtime_cmpstring", "slices.overlaps[isogloss/block.Entry]", "internal/abi.NoEscape"], unfollowed := true, recurses := true, plainKeys := false, apart := false, narrowed := true }
def MvccLoadsUptoSaid : Prop := mvccLoadsUptoRow.holds Try.pinned (OpenSpec.upto mvccLoadsSpec)

end Rows
end Go.Proofs.Ytcnehponkgofiaa
