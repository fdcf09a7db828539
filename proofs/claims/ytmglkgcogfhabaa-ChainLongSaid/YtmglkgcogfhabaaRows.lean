/-
  No cell of these rows narrows 'for every input' (looked for: loops, veiled, ifaces, maps, wideKeys, modest, calm, conditions, laid).
  DERIVED. THE GIVEN ROWS OF THIS SEAT. 7 by the template 'for every input the law returns true; each argument reads behind the call as it read before'; 0 by the template 'total and deterministic' (their statements: YtmglkgcogfhabaaTotals.lean).
  GIVEN WITH THE SEED: the statements are not yours to turn. If you find one false, say at which input.
  Laid BY PROGRAM, IN A SANDBOX (cutbox-rows.mjs): the forced cells as the released guide's own fill.sh prints them over the translation 3008bf387e719468… (all of the seat's roots in one cut). By AI agents, Wed Nov 11 2026. No macro, syntax, notation, axiom, sorry.
-/
import Derived.Test.YtmglkgcogfhabaaChecked
import GoSem.Claim
import GoSem.ClaimJoined
import GoSem.ClaimMapViews
import Derived.JoinedTies
import Derived.KernelRfl
namespace Go.Proofs.Ytmglkgcogfhabaa
/- THE CELL 'sum', in the pinned program and in every row, IS THE sha256 OF THE DUMP (.gsa) THAT YtmglkgcogfhabaaProg.lean LOADS. Nothing in Lean hashes anything: it is a label: what it is worth is what the hold of that sum in a sandbox is worth. -/
noncomputable def Try.pinned : Pinned := { name := "ytmglkgcogfhabaa", sum := "3008bf387e719468c8c1b2b9dca0325c055eac4003d8f204e9409d6b0c7414fe", checked := Try.checked }
namespace Rows
def none {H : Type} : Left H := { results := [], args := [] }

/-- 'isoglosslaw09.ChainAt': WHATEVER THE INPUT: true; the input reads as it did. -/
def chainAtSpec : ChangeSpec := { name := "chainAt", fn := fun _ => fun
  | [d1, d2, d3] => { results := [.lit (.bool true)], args := [d1, d2, d3] }
  | _ => none }
def chainAtRow : OpenClaim := { program := "ytmglkgcogfhabaa", sum := "3008bf387e719468c8c1b2b9dca0325c055eac4003d8f204e9409d6b0c7414fe", func := "isogloss/isoglosslaw09.ChainAt", spec := "chainAt", unfollowed := true, recurses := true, plainKeys := false, apart := false }
def ChainAtSaid : Prop := chainAtRow.holds Try.pinned (OpenSpec.ofChange chainAtSpec)

/-- ITS FALSE NEIGHBOUR: 'it returns false'. Refute it at one input. -/
def chainAtWrong : ChangeSpec := { name := "chainAt", fn := fun _ => fun
  | [d1, d2, d3] => { results := [.lit (.bool false)], args := [d1, d2, d3] }
  | _ => none }
def ChainAtWrongFalsely : Prop := chainAtRow.holds Try.pinned (OpenSpec.ofChange chainAtWrong)

/-- 'isoglosslaw09.ChainBack': WHATEVER THE INPUT: true; the input reads as it did. -/
def chainBackSpec : ChangeSpec := { name := "chainBack", fn := fun _ => fun
  | [d] => { results := [.lit (.bool true)], args := [d] }
  | _ => none }
def chainBackRow : OpenClaim := { program := "ytmglkgcogfhabaa", sum := "3008bf387e719468c8c1b2b9dca0325c055eac4003d8f204e9409d6b0c7414fe", func := "isogloss/isoglosslaw09.ChainBack", spec := "chainBack", plainKeys := false, apart := false }
def ChainBackSaid : Prop := chainBackRow.holds Try.pinned (OpenSpec.ofChange chainBackSpec)

/-- ITS FALSE NEIGHBOUR: 'it returns false'. Refute it at one input. -/
def chainBackWrong : ChangeSpec := { name := "chainBack", fn := fun _ => fun
  | [d] => { results := [.lit (.bool false)], args := [d] }
  | _ => none }
def ChainBackWrongFalsely : Prop := chainBackRow.holds Try.pinned (OpenSpec.ofChange chainBackWrong)

/-- 'isoglosslaw09.ChainDecodes': WHATEVER THE INPUT: true; the input reads as it did. -/
def chainDecodesSpec : ChangeSpec := { name := "chainDecodes", fn := fun _ => fun
  | [d] => { results := [.lit (.bool true)], args := [d] }
  | _ => none }
def chainDecodesRow : OpenClaim := { program := "ytmglkgcogfhabaa", sum := "3008bf387e719468c8c1b2b9dca0325c055eac4003d8f204e9409d6b0c7414fe", func := "isogloss/isoglosslaw09.ChainDecodes", spec := "chainDecodes", plainKeys := false, apart := false }
def ChainDecodesSaid : Prop := chainDecodesRow.holds Try.pinned (OpenSpec.ofChange chainDecodesSpec)

/-- ITS FALSE NEIGHBOUR: 'it returns false'. Refute it at one input. -/
def chainDecodesWrong : ChangeSpec := { name := "chainDecodes", fn := fun _ => fun
  | [d] => { results := [.lit (.bool false)], args := [d] }
  | _ => none }
def ChainDecodesWrongFalsely : Prop := chainDecodesRow.holds Try.pinned (OpenSpec.ofChange chainDecodesWrong)

/-- 'isoglosslaw09.ChainLong': WHATEVER THE INPUT: true; the input reads as it did. -/
def chainLongSpec : ChangeSpec := { name := "chainLong", fn := fun _ => fun
  | [d1, d2] => { results := [.lit (.bool true)], args := [d1, d2] }
  | _ => none }
def chainLongRow : OpenClaim := { program := "ytmglkgcogfhabaa", sum := "3008bf387e719468c8c1b2b9dca0325c055eac4003d8f204e9409d6b0c7414fe", func := "isogloss/isoglosslaw09.ChainLong", spec := "chainLong", plainKeys := false, apart := false }
def ChainLongSaid : Prop := chainLongRow.holds Try.pinned (OpenSpec.ofChange chainLongSpec)

/-- ITS FALSE NEIGHBOUR: 'it returns false'. Refute it at one input. -/
def chainLongWrong : ChangeSpec := { name := "chainLong", fn := fun _ => fun
  | [d1, d2] => { results := [.lit (.bool false)], args := [d1, d2] }
  | _ => none }
def ChainLongWrongFalsely : Prop := chainLongRow.holds Try.pinned (OpenSpec.ofChange chainLongWrong)

/-- 'isoglosslaw10.BlockFinds': WHATEVER THE INPUT: true; the input reads as it did. -/
def blockFindsSpec : ChangeSpec := { name := "blockFinds", fn := fun _ => fun
  | [d1, d2] => { results := [.lit (.bool true)], args := [d1, d2] }
  | _ => none }
def blockFindsRow : OpenClaim := { program := "ytmglkgcogfhabaa", sum := "3008bf387e719468c8c1b2b9dca0325c055eac4003d8f204e9409d6b0c7414fe", func := "isogloss/isoglosslaw10.BlockFinds", spec := "blockFinds", inPlace := ["internal/abi.NoEscape", "internal/bytealg.abigen_runtime_cmpstring"], unfollowed := true, recurses := true, plainKeys := false, apart := false }
def BlockFindsSaid : Prop := blockFindsRow.holds Try.pinned (OpenSpec.ofChange blockFindsSpec)

/-- ITS FALSE NEIGHBOUR: 'it returns false'. Refute it at one input. -/
def blockFindsWrong : ChangeSpec := { name := "blockFinds", fn := fun _ => fun
  | [d1, d2] => { results := [.lit (.bool false)], args := [d1, d2] }
  | _ => none }
def BlockFindsWrongFalsely : Prop := blockFindsRow.holds Try.pinned (OpenSpec.ofChange blockFindsWrong)

/-- 'isoglosslaw10.BlockBent': WHATEVER THE INPUT: true; the input reads as it did. -/
def blockBentSpec : ChangeSpec := { name := "blockBent", fn := fun _ => fun
  | [d1, d2, d3] => { results := [.lit (.bool true)], args := [d1, d2, d3] }
  | _ => none }
def blockBentRow : OpenClaim := { program := "ytmglkgcogfhabaa", sum := "3008bf387e719468c8c1b2b9dca0325c055eac4003d8f204e9409d6b0c7414fe", func := "isogloss/isoglosslaw10.BlockBent", spec := "blockBent", inPlace := ["internal/abi.NoEscape"], plainKeys := false, apart := false }
def BlockBentSaid : Prop := blockBentRow.holds Try.pinned (OpenSpec.ofChange blockBentSpec)

/-- ITS FALSE NEIGHBOUR: 'it returns false'. Refute it at one input. -/
def blockBentWrong : ChangeSpec := { name := "blockBent", fn := fun _ => fun
  | [d1, d2, d3] => { results := [.lit (.bool false)], args := [d1, d2, d3] }
  | _ => none }
def BlockBentWrongFalsely : Prop := blockBentRow.holds Try.pinned (OpenSpec.ofChange blockBentWrong)

/-- 'isoglosslaw10.BlockBack': WHATEVER THE INPUT: true; the input reads as it did. -/
def blockBackSpec : ChangeSpec := { name := "blockBack", fn := fun _ => fun
  | [d] => { results := [.lit (.bool true)], args := [d] }
  | _ => none }
def blockBackRow : OpenClaim := { program := "ytmglkgcogfhabaa", sum := "3008bf387e719468c8c1b2b9dca0325c055eac4003d8f204e9409d6b0c7414fe", func := "isogloss/isoglosslaw10.BlockBack", spec := "blockBack", inPlace := ["internal/abi.NoEscape"], plainKeys := false, apart := false }
def BlockBackSaid : Prop := blockBackRow.holds Try.pinned (OpenSpec.ofChange blockBackSpec)

/-- ITS FALSE NEIGHBOUR: 'it returns false'. Refute it at one input. -/
def blockBackWrong : ChangeSpec := { name := "blockBack", fn := fun _ => fun
  | [d] => { results := [.lit (.bool false)], args := [d] }
  | _ => none }
def BlockBackWrongFalsely : Prop := blockBackRow.holds Try.pinned (OpenSpec.ofChange blockBackWrong)

/- THE SECOND FORM. 'bulk': how many values and letters a reading holds, each counted each time it is reached (what is shared counts as often as it is met; a slice's spare places count too). A statement '..UptoSaid' is the law's where the arguments, and the package variables that the reading takes, are together of bulk at most 1048576: NARROWER than '..Said'. Prove '..Said' where nothing that the law and all that it calls make is longer than what came in: it says more and counts as full. Else prove '..UptoSaid'. A law counts once. -/
mutual
def uptoBulk {H : Type} : DataW H → Nat
  | .lit (.string bytes) => bytes.length + 1
  | .lit _ => 1
  | .nil => 1
  | .ptr d => uptoBulk d + 1
  | .slice elems spare => uptoBulkAll elems + uptoBulkAll spare + 1
  | .agg parts => uptoBulkAll parts + 1
  | .iface _ d => uptoBulk d + 1
  | .map entries => uptoBulkEntries entries + 1
  | .held _ => 1
def uptoBulkAll {H : Type} : List (DataW H) → Nat
  | [] => 0
  | d :: r => uptoBulk d + uptoBulkAll r
def uptoBulkEntries {H : Type} : List (Lit × DataW H) → Nat
  | [] => 0
  | x :: r => uptoBulkEntry x + uptoBulkEntries r
def uptoBulkEntry {H : Type} : Lit × DataW H → Nat
  | (.string bytes, d) => bytes.length + uptoBulk d + 1
  | (_, d) => uptoBulk d + 1
 end
def uptoSmall : (H : Type) → List (DataW H) → Bool := fun _ ds => decide (uptoBulkAll ds ≤ 1048576)
def OpenSpec.upto (s : _root_.Go.ChangeSpec) : _root_.Go.OpenSpec := { _root_.Go.OpenSpec.ofChange s with cond := some uptoSmall }

/-- 'isoglosslaw09.ChainAt', WHERE WHAT IT READS IS OF BULK AT MOST 1048576: true; the input reads as it did. -/
def chainAtUptoRow : OpenClaim := { program := "ytmglkgcogfhabaa", sum := "3008bf387e719468c8c1b2b9dca0325c055eac4003d8f204e9409d6b0c7414fe", func := "isogloss/isoglosslaw09.ChainAt", spec := "chainAt", unfollowed := true, recurses := true, plainKeys := false, apart := false, narrowed := true }
def ChainAtUptoSaid : Prop := chainAtUptoRow.holds Try.pinned (OpenSpec.upto chainAtSpec)

/-- 'isoglosslaw09.ChainBack', WHERE WHAT IT READS IS OF BULK AT MOST 1048576: true; the input reads as it did. -/
def chainBackUptoRow : OpenClaim := { program := "ytmglkgcogfhabaa", sum := "3008bf387e719468c8c1b2b9dca0325c055eac4003d8f204e9409d6b0c7414fe", func := "isogloss/isoglosslaw09.ChainBack", spec := "chainBack", plainKeys := false, apart := false, narrowed := true }
def ChainBackUptoSaid : Prop := chainBackUptoRow.holds Try.pinned (OpenSpec.upto chainBackSpec)

/-- 'isoglosslaw09.ChainDecodes', WHERE WHAT IT READS IS OF BULK AT MOST 1048576: true; the input reads as it did. -/
def chainDecodesUptoRow : OpenClaim := { program := "ytmglkgcogfhabaa", sum := "3008bf387e719468c8c1b2b9dca0325c055eac4003d8f204e9409d6b0c7414fe", func := "isogloss/isoglosslaw09.ChainDecodes", spec := "chainDecodes", plainKeys := false, apart := false, narrowed := true }
def ChainDecodesUptoSaid : Prop := chainDecodesUptoRow.holds Try.pinned (OpenSpec.upto chainDecodesSpec)

/-- 'isoglosslaw09.ChainLong', WHERE WHAT IT READS IS OF BULK AT MOST 1048576: true; the input reads as it did. -/
def chainLongUptoRow : OpenClaim := { program := "ytmglkgcogfhabaa", sum := "3008bf387e719468c8c1b2b9dca0325c055eac4003d8f204e9409d6b0c7414fe", func := "isogloss/isoglosslaw09.ChainLong", spec := "chainLong", plainKeys := false, apart := false, narrowed := true }
def ChainLongUptoSaid : Prop := chainLongUptoRow.holds Try.pinned (OpenSpec.upto chainLongSpec)

/-- 'isoglosslaw10.BlockFinds', WHERE WHAT IT READS IS OF BULK AT MOST 1048576: true; the input reads as it did. -/
def blockFindsUptoRow : OpenClaim := { program := "ytmglkgcogfhabaa", sum := "3008bf387e719468c8c1b2b9dca0325c055eac4003d8f204e9409d6b0c7414fe", func := "isogloss/isoglosslaw10.BlockFinds", spec := "blockFinds", inPlace := ["internal/abi.NoEscape", "internal/bytealg.abigen_runtime_cmpstring"], unfollowed := true, recurses := true, plainKeys := false, apart := false, narrowed := true }
def BlockFindsUptoSaid : Prop := blockFindsUptoRow.holds Try.pinned (OpenSpec.upto blockFindsSpec)

/-- 'isoglosslaw10.BlockBent', WHERE WHAT IT READS IS OF BULK AT MOST 1048576: true; the input reads as it did. -/
def blockBentUptoRow : OpenClaim := { program := "ytmglkgcogfhabaa", sum := "3008bf387e719468c8c1b2b9dca0325c055eac4003d8f204e9409d6b0c7414fe", func := "isogloss/isoglosslaw10.BlockBent", spec := "blockBent", inPlace := ["internal/abi.NoEscape"], plainKeys := false, apart := false, narrowed := true }
def BlockBentUptoSaid : Prop := blockBentUptoRow.holds Try.pinned (OpenSpec.upto blockBentSpec)

/-- 'isoglosslaw10.BlockBack', WHERE WHAT IT READS IS OF BULK AT MOST 1048576: true; the input reads as it did. -/
def blockBackUptoRow : OpenClaim := { program := "ytmglkgcogfhabaa", sum := "3008bf387e719468c8c1b2b9dca0325c055eac4003d8f204e9409d6b0c7414fe", func := "isogloss/isoglosslaw10.BlockBack", spec := "blockBack", inPlace := ["internal/abi.NoEscape"], plainKeys := false, apart := false, narrowed := true }
def BlockBackUptoSaid : Prop := blockBackUptoRow.holds Try.pinned (OpenSpec.upto blockBackSpec)

end Rows
end Go.Proofs.Ytmglkgcogfhabaa
