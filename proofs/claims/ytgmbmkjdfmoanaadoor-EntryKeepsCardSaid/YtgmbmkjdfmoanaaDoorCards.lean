/-
  DERIVED. GIVEN WITH THE SEED: THE CARDS: each row of YtgmbmkjdfmoanaaDoorRows.lean that lists a variable, with what it lists TIED to the program's text (the seventh form; the later family's looks); each row that meets fmt, with fmt's text TOLD by the authors' own Lean function (tested against real Go, not proved from fmt's source: count such statements apart). THE CARD IS WHAT COUNTS. Prove the row's statement (the work); the ties are given (YtgmbmkjdfmoanaaDoorTie.lean); close each card by the builder's one call (the guide's Derived/Test/ToyasCard.lean, 'card_holds'). Laid BY PROGRAM, IN A SANDBOX (cutbox-door.mjs). By AI agents, Wed Nov 11 2026. No macro, syntax, notation, axiom, sorry.
-/
import Derived.Test.YtgmbmkjdfmoanaaDoorRows
import GoSem.ClaimSeven
namespace Go.Proofs.YtgmbmkjdfmoanaaDoor
namespace Rows

/-- THE TIED CARD OF 'lockgatelaw15.EntryNames'. -/
def entryNamesCard : Claim7 := { stood := { row := entryNamesRow, standIns := [], harness := (true, "8cb5073b7107afa348e76008ea7296f737afec2eb33cbd54a98e9a5b0cb5e790"), looks := false }, kinds := [], alts := [], laidByText := true, laidKinds := [.data, .pinned], laidTests := true, laidLooks := .later }
def EntryNamesCardSaid : Prop := Claim7.holds Tryd.pinned (.plain (OpenSpec.ofChange entryNamesSpec)) entryNamesCard

/-- THE TIED CARD OF 'lockgatelaw15.EntryPaths'. -/
def entryPathsCard : Claim7 := { stood := { row := entryPathsRow, standIns := [], harness := (true, "8cb5073b7107afa348e76008ea7296f737afec2eb33cbd54a98e9a5b0cb5e790"), looks := false }, kinds := [], alts := [], laidByText := true, laidKinds := [.data, .pinned], laidTests := true, laidLooks := .later }
def EntryPathsCardSaid : Prop := Claim7.holds Tryd.pinned (.plain (OpenSpec.ofChange entryPathsSpec)) entryPathsCard

/-- THE TIED CARD OF 'lockgatelaw15.EntryZones'. -/
def entryZonesCard : Claim7 := { stood := { row := entryZonesRow, standIns := [], harness := (true, "8cb5073b7107afa348e76008ea7296f737afec2eb33cbd54a98e9a5b0cb5e790"), looks := false }, kinds := [], alts := [], laidByText := true, laidKinds := [.data, .pinned], laidTests := true, laidLooks := .later }
def EntryZonesCardSaid : Prop := Claim7.holds Tryd.pinned (.plain (OpenSpec.ofChange entryZonesSpec)) entryZonesCard

/-- THE TIED CARD OF 'lockgatelaw15.EntryOne'. -/
def entryOneCard : Claim7 := { stood := { row := entryOneRow, standIns := [], harness := (true, "8cb5073b7107afa348e76008ea7296f737afec2eb33cbd54a98e9a5b0cb5e790"), looks := false }, kinds := [], alts := [], laidByText := true, laidKinds := [.data, .pinned], laidTests := true, laidLooks := .later }
def EntryOneCardSaid : Prop := Claim7.holds Tryd.pinned (.plain (OpenSpec.ofChange entryOneSpec)) entryOneCard

/-- THE TIED CARD OF 'lockgatelaw15.EntryBytes'. -/
def entryBytesCard : Claim7 := { stood := { row := entryBytesRow, standIns := [], harness := (true, "8cb5073b7107afa348e76008ea7296f737afec2eb33cbd54a98e9a5b0cb5e790"), looks := false }, kinds := [], alts := [], laidByText := true, laidKinds := [.data, .pinned], laidTests := true, laidLooks := .later }
def EntryBytesCardSaid : Prop := Claim7.holds Tryd.pinned (.plain (OpenSpec.ofChange entryBytesSpec)) entryBytesCard

/-- THE TIED CARD OF 'lockgatelaw15.EntryOrder'. -/
def entryOrderCard : Claim7 := { stood := { row := entryOrderRow, standIns := [], harness := (true, "8cb5073b7107afa348e76008ea7296f737afec2eb33cbd54a98e9a5b0cb5e790"), looks := false }, kinds := [], alts := [], laidByText := true, laidKinds := [.data, .pinned], laidTests := true, laidLooks := .later }
def EntryOrderCardSaid : Prop := Claim7.holds Tryd.pinned (.plain (OpenSpec.ofChange entryOrderSpec)) entryOrderCard

/-- THE TIED CARD OF 'lockgatelaw15.EntryKeeps'. -/
def entryKeepsCard : Claim7 := { stood := { row := entryKeepsRow, standIns := [], harness := (true, "8cb5073b7107afa348e76008ea7296f737afec2eb33cbd54a98e9a5b0cb5e790"), looks := false }, kinds := [], alts := [], laidByText := true, laidKinds := [.data, .pinned], laidTests := true, laidLooks := .later }
def EntryKeepsCardSaid : Prop := Claim7.holds Tryd.pinned (.plain (OpenSpec.ofChange entryKeepsSpec)) entryKeepsCard

/-- THE SECOND FORM's CARD OF 'lockgatelaw15.EntryNames'. -/
def entryNamesUptoCard : Claim7 := { stood := { row := entryNamesUptoRow, standIns := [], harness := (true, "8cb5073b7107afa348e76008ea7296f737afec2eb33cbd54a98e9a5b0cb5e790"), looks := false }, kinds := [], alts := [], laidByText := true, laidKinds := [.data, .pinned], laidTests := true, laidLooks := .later }
def EntryNamesUptoCardSaid : Prop := Claim7.holds Tryd.pinned (.plain (OpenSpec.upto entryNamesSpec)) entryNamesUptoCard

/-- THE SECOND FORM's CARD OF 'lockgatelaw15.EntryPaths'. -/
def entryPathsUptoCard : Claim7 := { stood := { row := entryPathsUptoRow, standIns := [], harness := (true, "8cb5073b7107afa348e76008ea7296f737afec2eb33cbd54a98e9a5b0cb5e790"), looks := false }, kinds := [], alts := [], laidByText := true, laidKinds := [.data, .pinned], laidTests := true, laidLooks := .later }
def EntryPathsUptoCardSaid : Prop := Claim7.holds Tryd.pinned (.plain (OpenSpec.upto entryPathsSpec)) entryPathsUptoCard

/-- THE SECOND FORM's CARD OF 'lockgatelaw15.EntryZones'. -/
def entryZonesUptoCard : Claim7 := { stood := { row := entryZonesUptoRow, standIns := [], harness := (true, "8cb5073b7107afa348e76008ea7296f737afec2eb33cbd54a98e9a5b0cb5e790"), looks := false }, kinds := [], alts := [], laidByText := true, laidKinds := [.data, .pinned], laidTests := true, laidLooks := .later }
def EntryZonesUptoCardSaid : Prop := Claim7.holds Tryd.pinned (.plain (OpenSpec.upto entryZonesSpec)) entryZonesUptoCard

/-- THE SECOND FORM's CARD OF 'lockgatelaw15.EntryOne'. -/
def entryOneUptoCard : Claim7 := { stood := { row := entryOneUptoRow, standIns := [], harness := (true, "8cb5073b7107afa348e76008ea7296f737afec2eb33cbd54a98e9a5b0cb5e790"), looks := false }, kinds := [], alts := [], laidByText := true, laidKinds := [.data, .pinned], laidTests := true, laidLooks := .later }
def EntryOneUptoCardSaid : Prop := Claim7.holds Tryd.pinned (.plain (OpenSpec.upto entryOneSpec)) entryOneUptoCard

/-- THE SECOND FORM's CARD OF 'lockgatelaw15.EntryBytes'. -/
def entryBytesUptoCard : Claim7 := { stood := { row := entryBytesUptoRow, standIns := [], harness := (true, "8cb5073b7107afa348e76008ea7296f737afec2eb33cbd54a98e9a5b0cb5e790"), looks := false }, kinds := [], alts := [], laidByText := true, laidKinds := [.data, .pinned], laidTests := true, laidLooks := .later }
def EntryBytesUptoCardSaid : Prop := Claim7.holds Tryd.pinned (.plain (OpenSpec.upto entryBytesSpec)) entryBytesUptoCard

/-- THE SECOND FORM's CARD OF 'lockgatelaw15.EntryOrder'. -/
def entryOrderUptoCard : Claim7 := { stood := { row := entryOrderUptoRow, standIns := [], harness := (true, "8cb5073b7107afa348e76008ea7296f737afec2eb33cbd54a98e9a5b0cb5e790"), looks := false }, kinds := [], alts := [], laidByText := true, laidKinds := [.data, .pinned], laidTests := true, laidLooks := .later }
def EntryOrderUptoCardSaid : Prop := Claim7.holds Tryd.pinned (.plain (OpenSpec.upto entryOrderSpec)) entryOrderUptoCard

/-- THE SECOND FORM's CARD OF 'lockgatelaw15.EntryKeeps'. -/
def entryKeepsUptoCard : Claim7 := { stood := { row := entryKeepsUptoRow, standIns := [], harness := (true, "8cb5073b7107afa348e76008ea7296f737afec2eb33cbd54a98e9a5b0cb5e790"), looks := false }, kinds := [], alts := [], laidByText := true, laidKinds := [.data, .pinned], laidTests := true, laidLooks := .later }
def EntryKeepsUptoCardSaid : Prop := Claim7.holds Tryd.pinned (.plain (OpenSpec.upto entryKeepsSpec)) entryKeepsUptoCard
end Rows
end Go.Proofs.YtgmbmkjdfmoanaaDoor
