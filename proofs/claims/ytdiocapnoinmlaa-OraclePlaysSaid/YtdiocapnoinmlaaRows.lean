/-
  No cell of these rows narrows 'for every input' (looked for: loops, veiled, ifaces, maps, wideKeys, modest, calm, conditions, laid).
  DERIVED. THE GIVEN ROWS OF THIS SEAT. 7 by the template 'for every input the law returns true; each argument reads behind the call as it read before'; 0 by the template 'total and deterministic' (their statements: YtdiocapnoinmlaaTotals.lean).
  GIVEN WITH THE SEED: the statements are not yours to turn. If you find one false, say at which input.
  Laid BY PROGRAM, IN A SANDBOX (cutbox-rows.mjs): the forced cells as the released guide's own fill.sh prints them over the translation b466553c70f24540… (all of the seat's roots in one cut). By AI agents, Wed Nov 11 2026. No macro, syntax, notation, axiom, sorry.
-/
import Derived.Test.YtdiocapnoinmlaaChecked
import GoSem.Claim
import GoSem.ClaimJoined
import GoSem.ClaimMapViews
import Derived.JoinedTies
import Derived.KernelRfl
namespace Go.Proofs.Ytdiocapnoinmlaa
/- THE CELL 'sum', in the pinned program and in every row, IS THE sha256 OF THE DUMP (.gsa) THAT YtdiocapnoinmlaaProg.lean LOADS. Nothing in Lean hashes anything: it is a label: what it is worth is what the hold of that sum in a sandbox is worth. -/
noncomputable def Try.pinned : Pinned := { name := "ytdiocapnoinmlaa", sum := "b466553c70f245404ed00caa01d224acade9a6b53cb39df83021b18ccbc02c7e", checked := Try.checked }
namespace Rows
def none {H : Type} : Left H := { results := [], args := [] }

/-- 'isoglosslaw12.OracleRises': WHATEVER THE INPUT: true; the input reads as it did. -/
def oracleRisesSpec : ChangeSpec := { name := "oracleRises", fn := fun _ => fun
  | [d] => { results := [.lit (.bool true)], args := [d] }
  | _ => none }
def oracleRisesRow : OpenClaim := { program := "ytdiocapnoinmlaa", sum := "b466553c70f245404ed00caa01d224acade9a6b53cb39df83021b18ccbc02c7e", func := "isogloss/isoglosslaw12.OracleRises", spec := "oracleRises", apart := false }
def OracleRisesSaid : Prop := oracleRisesRow.holds Try.pinned (OpenSpec.ofChange oracleRisesSpec)

/-- ITS FALSE NEIGHBOUR: 'it returns false'. Refute it at one input. -/
def oracleRisesWrong : ChangeSpec := { name := "oracleRises", fn := fun _ => fun
  | [d] => { results := [.lit (.bool false)], args := [d] }
  | _ => none }
def OracleRisesWrongFalsely : Prop := oracleRisesRow.holds Try.pinned (OpenSpec.ofChange oracleRisesWrong)

/-- 'isoglosslaw12.OraclePlays': WHATEVER THE INPUT: true; the input reads as it did. -/
def oraclePlaysSpec : ChangeSpec := { name := "oraclePlays", fn := fun _ => fun
  | [d1, d2] => { results := [.lit (.bool true)], args := [d1, d2] }
  | _ => none }
def oraclePlaysRow : OpenClaim := { program := "ytdiocapnoinmlaa", sum := "b466553c70f245404ed00caa01d224acade9a6b53cb39df83021b18ccbc02c7e", func := "isogloss/isoglosslaw12.OraclePlays", spec := "oraclePlays", apart := false }
def OraclePlaysSaid : Prop := oraclePlaysRow.holds Try.pinned (OpenSpec.ofChange oraclePlaysSpec)

/-- ITS FALSE NEIGHBOUR: 'it returns false'. Refute it at one input. -/
def oraclePlaysWrong : ChangeSpec := { name := "oraclePlays", fn := fun _ => fun
  | [d1, d2] => { results := [.lit (.bool false)], args := [d1, d2] }
  | _ => none }
def OraclePlaysWrongFalsely : Prop := oraclePlaysRow.holds Try.pinned (OpenSpec.ofChange oraclePlaysWrong)

/-- 'isoglosslaw02.CrcSums': WHATEVER THE INPUT: true; the input reads as it did. -/
def crcSumsSpec : ChangeSpec := { name := "crcSums", fn := fun _ => fun
  | [d1, d2] => { results := [.lit (.bool true)], args := [d1, d2] }
  | _ => none }
def crcSumsRow : OpenClaim := { program := "ytdiocapnoinmlaa", sum := "b466553c70f245404ed00caa01d224acade9a6b53cb39df83021b18ccbc02c7e", func := "isogloss/isoglosslaw02.CrcSums", spec := "crcSums", apart := false }
def CrcSumsSaid : Prop := crcSumsRow.holds Try.pinned (OpenSpec.ofChange crcSumsSpec)

/-- ITS FALSE NEIGHBOUR: 'it returns false'. Refute it at one input. -/
def crcSumsWrong : ChangeSpec := { name := "crcSums", fn := fun _ => fun
  | [d1, d2] => { results := [.lit (.bool false)], args := [d1, d2] }
  | _ => none }
def CrcSumsWrongFalsely : Prop := crcSumsRow.holds Try.pinned (OpenSpec.ofChange crcSumsWrong)

/-- 'isoglosslaw02.CrcParts': WHATEVER THE INPUT: true; the input reads as it did. -/
def crcPartsSpec : ChangeSpec := { name := "crcParts", fn := fun _ => fun
  | [d1, d2] => { results := [.lit (.bool true)], args := [d1, d2] }
  | _ => none }
def crcPartsRow : OpenClaim := { program := "ytdiocapnoinmlaa", sum := "b466553c70f245404ed00caa01d224acade9a6b53cb39df83021b18ccbc02c7e", func := "isogloss/isoglosslaw02.CrcParts", spec := "crcParts", apart := false }
def CrcPartsSaid : Prop := crcPartsRow.holds Try.pinned (OpenSpec.ofChange crcPartsSpec)

/-- ITS FALSE NEIGHBOUR: 'it returns false'. Refute it at one input. -/
def crcPartsWrong : ChangeSpec := { name := "crcParts", fn := fun _ => fun
  | [d1, d2] => { results := [.lit (.bool false)], args := [d1, d2] }
  | _ => none }
def CrcPartsWrongFalsely : Prop := crcPartsRow.holds Try.pinned (OpenSpec.ofChange crcPartsWrong)

/-- 'isoglosslaw02.CrcBit': WHATEVER THE INPUT: true; the input reads as it did. -/
def crcBitSpec : ChangeSpec := { name := "crcBit", fn := fun _ => fun
  | [d1, d2] => { results := [.lit (.bool true)], args := [d1, d2] }
  | _ => none }
def crcBitRow : OpenClaim := { program := "ytdiocapnoinmlaa", sum := "b466553c70f245404ed00caa01d224acade9a6b53cb39df83021b18ccbc02c7e", func := "isogloss/isoglosslaw02.CrcBit", spec := "crcBit", apart := false }
def CrcBitSaid : Prop := crcBitRow.holds Try.pinned (OpenSpec.ofChange crcBitSpec)

/-- ITS FALSE NEIGHBOUR: 'it returns false'. Refute it at one input. -/
def crcBitWrong : ChangeSpec := { name := "crcBit", fn := fun _ => fun
  | [d1, d2] => { results := [.lit (.bool false)], args := [d1, d2] }
  | _ => none }
def CrcBitWrongFalsely : Prop := crcBitRow.holds Try.pinned (OpenSpec.ofChange crcBitWrong)

/-- 'isoglosslaw01.PrimMakes': WHATEVER THE INPUT: true; the input reads as it did. -/
def primMakesSpec : ChangeSpec := { name := "primMakes", fn := fun _ => fun
  | [d1, d2, d3] => { results := [.lit (.bool true)], args := [d1, d2, d3] }
  | _ => none }
def primMakesRow : OpenClaim := { program := "ytdiocapnoinmlaa", sum := "b466553c70f245404ed00caa01d224acade9a6b53cb39df83021b18ccbc02c7e", func := "isogloss/isoglosslaw01.PrimMakes", spec := "primMakes", apart := false }
def PrimMakesSaid : Prop := primMakesRow.holds Try.pinned (OpenSpec.ofChange primMakesSpec)

/-- ITS FALSE NEIGHBOUR: 'it returns false'. Refute it at one input. -/
def primMakesWrong : ChangeSpec := { name := "primMakes", fn := fun _ => fun
  | [d1, d2, d3] => { results := [.lit (.bool false)], args := [d1, d2, d3] }
  | _ => none }
def PrimMakesWrongFalsely : Prop := primMakesRow.holds Try.pinned (OpenSpec.ofChange primMakesWrong)

/-- 'isoglosslaw01.PrimBack': WHATEVER THE INPUT: true; the input reads as it did. -/
def primBackSpec : ChangeSpec := { name := "primBack", fn := fun _ => fun
  | [d1, d2, d3] => { results := [.lit (.bool true)], args := [d1, d2, d3] }
  | _ => none }
def primBackRow : OpenClaim := { program := "ytdiocapnoinmlaa", sum := "b466553c70f245404ed00caa01d224acade9a6b53cb39df83021b18ccbc02c7e", func := "isogloss/isoglosslaw01.PrimBack", spec := "primBack", apart := false }
def PrimBackSaid : Prop := primBackRow.holds Try.pinned (OpenSpec.ofChange primBackSpec)

/-- ITS FALSE NEIGHBOUR: 'it returns false'. Refute it at one input. -/
def primBackWrong : ChangeSpec := { name := "primBack", fn := fun _ => fun
  | [d1, d2, d3] => { results := [.lit (.bool false)], args := [d1, d2, d3] }
  | _ => none }
def PrimBackWrongFalsely : Prop := primBackRow.holds Try.pinned (OpenSpec.ofChange primBackWrong)

/- THE SECOND FORM. 'bulk': how many values and letters a reading holds, each counted each time it is reached (what is shared counts as often as it is met; a slice's spare places count too). A statement '..UptoSaid' is the law's where the arguments, and the package variables that the reading takes, are together of bulk at most 1048576: NARROWER than '..Said'. Prove '..Said' where nothing that the law and all that it calls make is longer than what came in: it says more and counts as full. Else prove '..UptoSaid'. A law counts once. -/
mutual
def uptoBulk {H : Type} : DataW H → Nat
  | .lit (.string bytes) => bytes.length + 1
  | .lit _ => 1
  | .nil => 1
  | .ptr d => uptoBulk d + 1
  | .slice elems spare => uptoBulkAll elems + uptoBulkAll spare + 1
  | .agg parts => uptoBulkAll parts + 1
  | .iface _ d => uptoBulk d + 1
  | .map entries => uptoBulkEntries entries + 1
  | .held _ => 1
def uptoBulkAll {H : Type} : List (DataW H) → Nat
  | [] => 0
  | d :: r => uptoBulk d + uptoBulkAll r
def uptoBulkEntries {H : Type} : List (Lit × DataW H) → Nat
  | [] => 0
  | x :: r => uptoBulkEntry x + uptoBulkEntries r
def uptoBulkEntry {H : Type} : Lit × DataW H → Nat
  | (.string bytes, d) => bytes.length + uptoBulk d + 1
  | (_, d) => uptoBulk d + 1
 end
def uptoSmall : (H : Type) → List (DataW H) → Bool := fun _ ds => decide (uptoBulkAll ds ≤ 1048576)
def OpenSpec.upto (s : _root_.Go.ChangeSpec) : _root_.Go.OpenSpec := { _root_.Go.OpenSpec.ofChange s with cond := some uptoSmall }

/-- 'isoglosslaw12.OracleRises', WHERE WHAT IT READS IS OF BULK AT MOST 1048576: true; the input reads as it did. -/
def oracleRisesUptoRow : OpenClaim := { program := "ytdiocapnoinmlaa", sum := "b466553c70f245404ed00caa01d224acade9a6b53cb39df83021b18ccbc02c7e", func := "isogloss/isoglosslaw12.OracleRises", spec := "oracleRises", apart := false, narrowed := true }
def OracleRisesUptoSaid : Prop := oracleRisesUptoRow.holds Try.pinned (OpenSpec.upto oracleRisesSpec)

/-- 'isoglosslaw12.OraclePlays', WHERE WHAT IT READS IS OF BULK AT MOST 1048576: true; the input reads as it did. -/
def oraclePlaysUptoRow : OpenClaim := { program := "ytdiocapnoinmlaa", sum := "b466553c70f245404ed00caa01d224acade9a6b53cb39df83021b18ccbc02c7e", func := "isogloss/isoglosslaw12.OraclePlays", spec := "oraclePlays", apart := false, narrowed := true }
def OraclePlaysUptoSaid : Prop := oraclePlaysUptoRow.holds Try.pinned (OpenSpec.upto oraclePlaysSpec)

/-- 'isoglosslaw02.CrcSums', WHERE WHAT IT READS IS OF BULK AT MOST 1048576: true; the input reads as it did. -/
def crcSumsUptoRow : OpenClaim := { program := "ytdiocapnoinmlaa", sum := "b466553c70f245404ed00caa01d224acade9a6b53cb39df83021b18ccbc02c7e", func := "isogloss/isoglosslaw02.CrcSums", spec := "crcSums", apart := false, narrowed := true }
def CrcSumsUptoSaid : Prop := crcSumsUptoRow.holds Try.pinned (OpenSpec.upto crcSumsSpec)

/-- 'isoglosslaw02.CrcParts', WHERE WHAT IT READS IS OF BULK AT MOST 1048576: true; the input reads as it did. -/
def crcPartsUptoRow : OpenClaim := { program := "ytdiocapnoinmlaa", sum := "b466553c70f245404ed00caa01d224acade9a6b53cb39df83021b18ccbc02c7e", func := "isogloss/isoglosslaw02.CrcParts", spec := "crcParts", apart := false, narrowed := true }
def CrcPartsUptoSaid : Prop := crcPartsUptoRow.holds Try.pinned (OpenSpec.upto crcPartsSpec)

/-- 'isoglosslaw02.CrcBit', WHERE WHAT IT READS IS OF BULK AT MOST 1048576: true; the input reads as it did. -/
def crcBitUptoRow : OpenClaim := { program := "ytdiocapnoinmlaa", sum := "b466553c70f245404ed00caa01d224acade9a6b53cb39df83021b18ccbc02c7e", func := "isogloss/isoglosslaw02.CrcBit", spec := "crcBit", apart := false, narrowed := true }
def CrcBitUptoSaid : Prop := crcBitUptoRow.holds Try.pinned (OpenSpec.upto crcBitSpec)

/-- 'isoglosslaw01.PrimMakes', WHERE WHAT IT READS IS OF BULK AT MOST 1048576: true; the input reads as it did. -/
def primMakesUptoRow : OpenClaim := { program := "ytdiocapnoinmlaa", sum := "b466553c70f245404ed00caa01d224acade9a6b53cb39df83021b18ccbc02c7e", func := "isogloss/isoglosslaw01.PrimMakes", spec := "primMakes", apart := false, narrowed := true }
def PrimMakesUptoSaid : Prop := primMakesUptoRow.holds Try.pinned (OpenSpec.upto primMakesSpec)

/-- 'isoglosslaw01.PrimBack', WHERE WHAT IT READS IS OF BULK AT MOST 1048576: true; the input reads as it did. -/
def primBackUptoRow : OpenClaim := { program := "ytdiocapnoinmlaa", sum := "b466553c70f245404ed00caa01d224acade9a6b53cb39df83021b18ccbc02c7e", func := "isogloss/isoglosslaw01.PrimBack", spec := "primBack", apart := false, narrowed := true }
def PrimBackUptoSaid : Prop := primBackUptoRow.holds Try.pinned (OpenSpec.upto primBackSpec)

end Rows
end Go.Proofs.Ytdiocapnoinmlaa
