/-
  DERIVED. GIVEN WITH THE SEED: THE CARDS: each row of YtgpkpheejefiiaaGreatDoorRows.lean that lists a variable, with what it lists TIED to the program's text (the seventh form; the later family's looks); each row that meets fmt, with fmt's text TOLD by the authors' own Lean function (tested against real Go, not proved from fmt's source: count such statements apart). THE CARD IS WHAT COUNTS. Prove the row's statement (the work); the ties are given (YtgpkpheejefiiaaGreatDoorTie.lean); close each card by the builder's one call (the guide's Derived/Test/ToyasCard.lean, 'card_holds'). Laid BY PROGRAM, IN A SANDBOX (cutbox-door.mjs). By AI agents, Wed Nov 11 2026. No macro, syntax, notation, axiom, sorry.
-/
import Derived.Test.YtgpkpheejefiiaaGreatDoorRows
import GoSem.ClaimSeven
namespace Go.Proofs.YtgpkpheejefiiaaGreatDoor
namespace Rows

/-- THE TIED CARD OF 'trunniontop.TopAgeing'. -/
def topAgeingCard : Claim7 := { stood := { row := topAgeingRow, standIns := [], harness := (true, "8580c5d3ab1ef80a409cf26dee30f9800b769394e50cceecab1067241b87fa71"), looks := false }, kinds := [], alts := [], laidByText := true, laidKinds := [.data, .data], laidTests := true, laidLooks := .later }
def TopAgeingCardSaid : Prop := Claim7.holds Tryz.pinned (.plain (OpenSpec.ofChange topAgeingSpec)) topAgeingCard

/-- THE TIED CARD OF 'trunniontop.TopHole'. -/
def topHoleCard : Claim7 := { stood := { row := topHoleRow, standIns := [], harness := (true, "8580c5d3ab1ef80a409cf26dee30f9800b769394e50cceecab1067241b87fa71"), looks := false }, kinds := [], alts := [], laidByText := true, laidKinds := [.data, .data], laidTests := true, laidLooks := .later }
def TopHoleCardSaid : Prop := Claim7.holds Tryz.pinned (.plain (OpenSpec.ofChange topHoleSpec)) topHoleCard

/-- THE TIED CARD OF 'trunniontop.TopOptions'. -/
def topOptionsCard : Claim7 := { stood := { row := topOptionsRow, standIns := [], harness := (true, "8580c5d3ab1ef80a409cf26dee30f9800b769394e50cceecab1067241b87fa71"), looks := false }, kinds := [], alts := [], laidByText := true, laidKinds := [.data, .data], laidTests := true, laidLooks := .later }
def TopOptionsCardSaid : Prop := Claim7.holds Tryz.pinned (.plain (OpenSpec.ofChange topOptionsSpec)) topOptionsCard

/-- THE SECOND FORM's CARD OF 'trunniontop.TopAgeing'. -/
def topAgeingUptoCard : Claim7 := { stood := { row := topAgeingUptoRow, standIns := [], harness := (true, "8580c5d3ab1ef80a409cf26dee30f9800b769394e50cceecab1067241b87fa71"), looks := false }, kinds := [], alts := [], laidByText := true, laidKinds := [.data, .data], laidTests := true, laidLooks := .later }
def TopAgeingUptoCardSaid : Prop := Claim7.holds Tryz.pinned (.plain (OpenSpec.upto topAgeingSpec)) topAgeingUptoCard

/-- THE SECOND FORM's CARD OF 'trunniontop.TopHole'. -/
def topHoleUptoCard : Claim7 := { stood := { row := topHoleUptoRow, standIns := [], harness := (true, "8580c5d3ab1ef80a409cf26dee30f9800b769394e50cceecab1067241b87fa71"), looks := false }, kinds := [], alts := [], laidByText := true, laidKinds := [.data, .data], laidTests := true, laidLooks := .later }
def TopHoleUptoCardSaid : Prop := Claim7.holds Tryz.pinned (.plain (OpenSpec.upto topHoleSpec)) topHoleUptoCard

/-- THE SECOND FORM's CARD OF 'trunniontop.TopOptions'. -/
def topOptionsUptoCard : Claim7 := { stood := { row := topOptionsUptoRow, standIns := [], harness := (true, "8580c5d3ab1ef80a409cf26dee30f9800b769394e50cceecab1067241b87fa71"), looks := false }, kinds := [], alts := [], laidByText := true, laidKinds := [.data, .data], laidTests := true, laidLooks := .later }
def TopOptionsUptoCardSaid : Prop := Claim7.holds Tryz.pinned (.plain (OpenSpec.upto topOptionsSpec)) topOptionsUptoCard
end Rows
end Go.Proofs.YtgpkpheejefiiaaGreatDoor
