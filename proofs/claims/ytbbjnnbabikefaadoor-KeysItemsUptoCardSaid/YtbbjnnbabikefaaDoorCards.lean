/-
  DERIVED. GIVEN WITH THE SEED: THE CARDS: each row of YtbbjnnbabikefaaDoorRows.lean that lists a variable, with what it lists TIED to the program's text (the seventh form; the later family's looks); each row that meets fmt, with fmt's text TOLD by the authors' own Lean function (tested against real Go, not proved from fmt's source: count such statements apart). THE CARD IS WHAT COUNTS. Prove the row's statement (the work); the ties are given (YtbbjnnbabikefaaDoorTie.lean); close each card by the builder's one call (the guide's Derived/Test/ToyasCard.lean, 'card_holds'). Laid BY PROGRAM, IN A SANDBOX (cutbox-door.mjs). By AI agents, Wed Nov 11 2026. No macro, syntax, notation, axiom, sorry.
-/
import Derived.Test.YtbbjnnbabikefaaDoorRows
import GoSem.ClaimSeven
namespace Go.Proofs.YtbbjnnbabikefaaDoor
namespace Rows

/-- THE TIED CARD OF 'isoglosslaw03.KeysFirst'. -/
def keysFirstCard : Claim7 := { stood := { row := keysFirstRow, standIns := [], harness := (true, "d4425149cade3ee9b076164c715c02d66513ccc9cdcb87951691b4bf6fd91303"), looks := true }, kinds := [], alts := [], laidByText := true, laidKinds := [.data, .pinned], laidTests := true, laidLooks := .later }
def KeysFirstCardSaid : Prop := Claim7.holds Tryd.pinned (.plain (OpenSpec.ofChange keysFirstSpec)) keysFirstCard

/-- THE TIED CARD OF 'isoglosslaw03.KeysOrder'. -/
def keysOrderCard : Claim7 := { stood := { row := keysOrderRow, standIns := [], harness := (true, "d4425149cade3ee9b076164c715c02d66513ccc9cdcb87951691b4bf6fd91303"), looks := true }, kinds := [], alts := [], laidByText := true, laidKinds := [.data, .pinned], laidTests := true, laidLooks := .later }
def KeysOrderCardSaid : Prop := Claim7.holds Tryd.pinned (.plain (OpenSpec.ofChange keysOrderSpec)) keysOrderCard

/-- THE TIED CARD OF 'isoglosslaw03.KeysItems'. -/
def keysItemsCard : Claim7 := { stood := { row := keysItemsRow, standIns := [], harness := (true, "d4425149cade3ee9b076164c715c02d66513ccc9cdcb87951691b4bf6fd91303"), looks := true }, kinds := [], alts := [], laidByText := true, laidKinds := [.data, .pinned], laidTests := true, laidLooks := .later }
def KeysItemsCardSaid : Prop := Claim7.holds Tryd.pinned (.plain (OpenSpec.ofChange keysItemsSpec)) keysItemsCard

/-- THE TIED CARD OF 'isoglosslaw03.KeysEncodes'. -/
def keysEncodesCard : Claim7 := { stood := { row := keysEncodesRow, standIns := [], harness := (true, "d4425149cade3ee9b076164c715c02d66513ccc9cdcb87951691b4bf6fd91303"), looks := true }, kinds := [], alts := [], laidByText := true, laidKinds := [.data, .pinned], laidTests := true, laidLooks := .later }
def KeysEncodesCardSaid : Prop := Claim7.holds Tryd.pinned (.plain (OpenSpec.ofChange keysEncodesSpec)) keysEncodesCard

/-- THE TIED CARD OF 'isoglosslaw03.KeysDecodes'. -/
def keysDecodesCard : Claim7 := { stood := { row := keysDecodesRow, standIns := [], harness := (true, "d4425149cade3ee9b076164c715c02d66513ccc9cdcb87951691b4bf6fd91303"), looks := true }, kinds := [], alts := [], laidByText := true, laidKinds := [.data, .pinned], laidTests := true, laidLooks := .later }
def KeysDecodesCardSaid : Prop := Claim7.holds Tryd.pinned (.plain (OpenSpec.ofChange keysDecodesSpec)) keysDecodesCard

/-- THE SECOND FORM's CARD OF 'isoglosslaw03.KeysFirst'. -/
def keysFirstUptoCard : Claim7 := { stood := { row := keysFirstUptoRow, standIns := [], harness := (true, "d4425149cade3ee9b076164c715c02d66513ccc9cdcb87951691b4bf6fd91303"), looks := true }, kinds := [], alts := [], laidByText := true, laidKinds := [.data, .pinned], laidTests := true, laidLooks := .later }
def KeysFirstUptoCardSaid : Prop := Claim7.holds Tryd.pinned (.plain (OpenSpec.upto keysFirstSpec)) keysFirstUptoCard

/-- THE SECOND FORM's CARD OF 'isoglosslaw03.KeysOrder'. -/
def keysOrderUptoCard : Claim7 := { stood := { row := keysOrderUptoRow, standIns := [], harness := (true, "d4425149cade3ee9b076164c715c02d66513ccc9cdcb87951691b4bf6fd91303"), looks := true }, kinds := [], alts := [], laidByText := true, laidKinds := [.data, .pinned], laidTests := true, laidLooks := .later }
def KeysOrderUptoCardSaid : Prop := Claim7.holds Tryd.pinned (.plain (OpenSpec.upto keysOrderSpec)) keysOrderUptoCard

/-- THE SECOND FORM's CARD OF 'isoglosslaw03.KeysItems'. -/
def keysItemsUptoCard : Claim7 := { stood := { row := keysItemsUptoRow, standIns := [], harness := (true, "d4425149cade3ee9b076164c715c02d66513ccc9cdcb87951691b4bf6fd91303"), looks := true }, kinds := [], alts := [], laidByText := true, laidKinds := [.data, .pinned], laidTests := true, laidLooks := .later }
def KeysItemsUptoCardSaid : Prop := Claim7.holds Tryd.pinned (.plain (OpenSpec.upto keysItemsSpec)) keysItemsUptoCard

/-- THE SECOND FORM's CARD OF 'isoglosslaw03.KeysEncodes'. -/
def keysEncodesUptoCard : Claim7 := { stood := { row := keysEncodesUptoRow, standIns := [], harness := (true, "d4425149cade3ee9b076164c715c02d66513ccc9cdcb87951691b4bf6fd91303"), looks := true }, kinds := [], alts := [], laidByText := true, laidKinds := [.data, .pinned], laidTests := true, laidLooks := .later }
def KeysEncodesUptoCardSaid : Prop := Claim7.holds Tryd.pinned (.plain (OpenSpec.upto keysEncodesSpec)) keysEncodesUptoCard

/-- THE SECOND FORM's CARD OF 'isoglosslaw03.KeysDecodes'. -/
def keysDecodesUptoCard : Claim7 := { stood := { row := keysDecodesUptoRow, standIns := [], harness := (true, "d4425149cade3ee9b076164c715c02d66513ccc9cdcb87951691b4bf6fd91303"), looks := true }, kinds := [], alts := [], laidByText := true, laidKinds := [.data, .pinned], laidTests := true, laidLooks := .later }
def KeysDecodesUptoCardSaid : Prop := Claim7.holds Tryd.pinned (.plain (OpenSpec.upto keysDecodesSpec)) keysDecodesUptoCard
end Rows
end Go.Proofs.YtbbjnnbabikefaaDoor
