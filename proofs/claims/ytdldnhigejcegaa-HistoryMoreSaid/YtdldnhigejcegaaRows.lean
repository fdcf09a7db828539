/-
  No cell of these rows narrows 'for every input' (looked for: loops, veiled, ifaces, maps, wideKeys, modest, calm, conditions, laid).
  DERIVED. THE GIVEN ROWS OF THIS SEAT. 4 by the template 'for every input the law returns true; each argument reads behind the call as it read before'; 0 by the template 'total and deterministic' (their statements: YtdldnhigejcegaaTotals.lean).
  GIVEN WITH THE SEED: the statements are not yours to turn. If you find one false, say at which input.
  Laid BY PROGRAM, IN A SANDBOX (cutbox-rows.mjs): the forced cells as the released guide's own fill.sh prints them over the translation da5bd2752eadd027… (all of the seat's roots in one cut). By AI agents, Wed Nov 11 2026. No macro, syntax, notation, axiom, sorry.
-/
import Derived.Test.YtdldnhigejcegaaChecked
import GoSem.Claim
import GoSem.ClaimJoined
import GoSem.ClaimMapViews
import Derived.JoinedTies
import Derived.KernelRfl
namespace Go.Proofs.Ytdldnhigejcegaa
/- THE CELL 'sum', in the pinned program and in every row, IS THE sha256 OF THE DUMP (.gsa) THAT YtdldnhigejcegaaProg.lean LOADS. Nothing in Lean hashes anything: it is a label: what it is worth is what the hold of that sum in a sandbox is worth. -/
noncomputable def Try.pinned : Pinned := { name := "ytdldnhigejcegaa", sum := "da5bd2752eadd027a1be82942329c8d8f2e9f46f3dc9bad509504728c3bbb5d5", checked := Try.checked }
namespace Rows
def none {H : Type} : Left H := { results := [], args := [] }

/-- 'isoglosslaw14.CoordEnds': WHATEVER THE INPUT: true; the input reads as it did. -/
def coordEndsSpec : ChangeSpec := { name := "coordEnds", fn := fun _ => fun
  | [d1, d2] => { results := [.lit (.bool true)], args := [d1, d2] }
  | _ => none }
def coordEndsRow : OpenClaim := { program := "ytdldnhigejcegaa", sum := "da5bd2752eadd027a1be82942329c8d8f2e9f46f3dc9bad509504728c3bbb5d5", func := "isogloss/isoglosslaw14.CoordEnds", spec := "coordEnds", unfollowed := true, recurses := true, apart := false }
def CoordEndsSaid : Prop := coordEndsRow.holds Try.pinned (OpenSpec.ofChange coordEndsSpec)

/-- ITS FALSE NEIGHBOUR: 'it returns false'. Refute it at one input. -/
def coordEndsWrong : ChangeSpec := { name := "coordEnds", fn := fun _ => fun
  | [d1, d2] => { results := [.lit (.bool false)], args := [d1, d2] }
  | _ => none }
def CoordEndsWrongFalsely : Prop := coordEndsRow.holds Try.pinned (OpenSpec.ofChange coordEndsWrong)

/-- 'isoglosslaw14.CoordPlays': WHATEVER THE INPUT: true; the input reads as it did. -/
def coordPlaysSpec : ChangeSpec := { name := "coordPlays", fn := fun _ => fun
  | [d1, d2, d3] => { results := [.lit (.bool true)], args := [d1, d2, d3] }
  | _ => none }
def coordPlaysRow : OpenClaim := { program := "ytdldnhigejcegaa", sum := "da5bd2752eadd027a1be82942329c8d8f2e9f46f3dc9bad509504728c3bbb5d5", func := "isogloss/isoglosslaw14.CoordPlays", spec := "coordPlays", unfollowed := true, recurses := true, apart := false }
def CoordPlaysSaid : Prop := coordPlaysRow.holds Try.pinned (OpenSpec.ofChange coordPlaysSpec)

/-- ITS FALSE NEIGHBOUR: 'it returns false'. Refute it at one input. -/
def coordPlaysWrong : ChangeSpec := { name := "coordPlays", fn := fun _ => fun
  | [d1, d2, d3] => { results := [.lit (.bool false)], args := [d1, d2, d3] }
  | _ => none }
def CoordPlaysWrongFalsely : Prop := coordPlaysRow.holds Try.pinned (OpenSpec.ofChange coordPlaysWrong)

/-- 'isoglosslaw18.HistoryApart': WHATEVER THE INPUT: true; the input reads as it did. -/
def historyApartSpec : ChangeSpec := { name := "historyApart", fn := fun _ => fun
  | [d] => { results := [.lit (.bool true)], args := [d] }
  | _ => none }
def historyApartRow : OpenClaim := { program := "ytdldnhigejcegaa", sum := "da5bd2752eadd027a1be82942329c8d8f2e9f46f3dc9bad509504728c3bbb5d5", func := "isogloss/isoglosslaw18.HistoryApart", spec := "historyApart", unfollowed := true, recurses := true, apart := false }
def HistoryApartSaid : Prop := historyApartRow.holds Try.pinned (OpenSpec.ofChange historyApartSpec)

/-- ITS FALSE NEIGHBOUR: 'it returns false'. Refute it at one input. -/
def historyApartWrong : ChangeSpec := { name := "historyApart", fn := fun _ => fun
  | [d] => { results := [.lit (.bool false)], args := [d] }
  | _ => none }
def HistoryApartWrongFalsely : Prop := historyApartRow.holds Try.pinned (OpenSpec.ofChange historyApartWrong)

/-- 'isoglosslaw18.HistoryMore': WHATEVER THE INPUT: true; the input reads as it did. -/
def historyMoreSpec : ChangeSpec := { name := "historyMore", fn := fun _ => fun
  | [d1, d2, d3] => { results := [.lit (.bool true)], args := [d1, d2, d3] }
  | _ => none }
def historyMoreRow : OpenClaim := { program := "ytdldnhigejcegaa", sum := "da5bd2752eadd027a1be82942329c8d8f2e9f46f3dc9bad509504728c3bbb5d5", func := "isogloss/isoglosslaw18.HistoryMore", spec := "historyMore", unfollowed := true, recurses := true, apart := false }
def HistoryMoreSaid : Prop := historyMoreRow.holds Try.pinned (OpenSpec.ofChange historyMoreSpec)

/-- ITS FALSE NEIGHBOUR: 'it returns false'. Refute it at one input. -/
def historyMoreWrong : ChangeSpec := { name := "historyMore", fn := fun _ => fun
  | [d1, d2, d3] => { results := [.lit (.bool false)], args := [d1, d2, d3] }
  | _ => none }
def HistoryMoreWrongFalsely : Prop := historyMoreRow.holds Try.pinned (OpenSpec.ofChange historyMoreWrong)

/- THE SECOND FORM. 'bulk': how many values and letters a reading holds, each counted each time it is reached (what is shared counts as often as it is met; a slice's spare places count too). A statement '..UptoSaid' is the law's where the arguments, and the package variables that the reading takes, are together of bulk at most 1048576: NARROWER than '..Said'. Prove '..Said' where nothing that the law and all that it calls make is longer than what came in: it says more and counts as full. Else prove '..UptoSaid'. A law counts once. -/
mutual
def uptoBulk {H : Type} : DataW H → Nat
  | .lit (.string bytes) => bytes.length + 1
  | .lit _ => 1
  | .nil => 1
  | .ptr d => uptoBulk d + 1
  | .slice elems spare => uptoBulkAll elems + uptoBulkAll spare + 1
  | .agg parts => uptoBulkAll parts + 1
  | .iface _ d => uptoBulk d + 1
  | .map entries => uptoBulkEntries entries + 1
  | .held _ => 1
def uptoBulkAll {H : Type} : List (DataW H) → Nat
  | [] => 0
  | d :: r => uptoBulk d + uptoBulkAll r
def uptoBulkEntries {H : Type} : List (Lit × DataW H) → Nat
  | [] => 0
  | x :: r => uptoBulkEntry x + uptoBulkEntries r
def uptoBulkEntry {H : Type} : Lit × DataW H → Nat
  | (.string bytes, d) => bytes.length + uptoBulk d + 1
  | (_, d) => uptoBulk d + 1
 end
def uptoSmall : (H : Type) → List (DataW H) → Bool := fun _ ds => decide (uptoBulkAll ds ≤ 1048576)
def OpenSpec.upto (s : _root_.Go.ChangeSpec) : _root_.Go.OpenSpec := { _root_.Go.OpenSpec.ofChange s with cond := some uptoSmall }

/-- 'isoglosslaw14.CoordEnds', WHERE WHAT IT READS IS OF BULK AT MOST 1048576: true; the input reads as it did. -/
def coordEndsUptoRow : OpenClaim := { program := "ytdldnhigejcegaa", sum := "da5bd2752eadd027a1be82942329c8d8f2e9f46f3dc9bad509504728c3bbb5d5", func := "isogloss/isoglosslaw14.CoordEnds", spec := "coordEnds", unfollowed := true, recurses := true, apart := false, narrowed := true }
def CoordEndsUptoSaid : Prop := coordEndsUptoRow.holds Try.pinned (OpenSpec.upto coordEndsSpec)

/-- 'isoglosslaw14.CoordPlays', WHERE WHAT IT READS IS OF BULK AT MOST 1048576: true; the input reads as it did. -/
def coordPlaysUptoRow : OpenClaim := { program := "ytdldnhigejcegaa", sum := "da5bd2752eadd027a1be82942329c8d8f2e9f46f3dc9bad509504728c3bbb5d5", func := "isogloss/isoglosslaw14.CoordPlays", spec := "coordPlays", unfollowed := true, recurses := true, apart := false, narrowed := true }
def CoordPlaysUptoSaid : Prop := coordPlaysUptoRow.holds Try.pinned (OpenSpec.upto coordPlaysSpec)

/-- 'isoglosslaw18.HistoryApart', WHERE WHAT IT READS IS OF BULK AT MOST 1048576: true; the input reads as it did. -/
def historyApartUptoRow : OpenClaim := { program := "ytdldnhigejcegaa", sum := "da5bd2752eadd027a1be82942329c8d8f2e9f46f3dc9bad509504728c3bbb5d5", func := "isogloss/isoglosslaw18.HistoryApart", spec := "historyApart", unfollowed := true, recurses := true, apart := false, narrowed := true }
def HistoryApartUptoSaid : Prop := historyApartUptoRow.holds Try.pinned (OpenSpec.upto historyApartSpec)

/-- 'isoglosslaw18.HistoryMore', WHERE WHAT IT READS IS OF BULK AT MOST 1048576: true; the input reads as it did. -/
def historyMoreUptoRow : OpenClaim := { program := "ytdldnhigejcegaa", sum := "da5bd2752eadd027a1be82942329c8d8f2e9f46f3dc9bad509504728c3bbb5d5", func := "isogloss/isoglosslaw18.HistoryMore", spec := "historyMore", unfollowed := true, recurses := true, apart := false, narrowed := true }
def HistoryMoreUptoSaid : Prop := historyMoreUptoRow.holds Try.pinned (OpenSpec.upto historyMoreSpec)

end Rows
end Go.Proofs.Ytdldnhigejcegaa
